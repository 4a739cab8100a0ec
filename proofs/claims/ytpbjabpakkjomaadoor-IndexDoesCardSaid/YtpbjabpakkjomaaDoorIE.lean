/- The index's Keys: the walk up to the sort. -/
import Derived.Test.YtpbjabpakkjomaaDoorID
import Derived.Test.YtpbjabpakkjomaaDoorSx
import Derived.Deep.MidRow
namespace Go.Proofs.YtpbjabpakkjomaaDoor
open Go.RowKit Go.Proofs.YtpbjabpakkjomaaDoorW.PrintWords Go.Proofs.YtpbjabpakkjomaaDoorW.PrintLast Go.Proofs.YtpbjabpakkjomaaDoorW.PrintMore
set_option linter.unusedVariables false
set_option linter.unusedSimpArgs false

section
variable {P : Program} {ops : Array Oper} {rest : List Oper} {o : Oper} {a : Act} {Q : Exit → Act → World → Prop} {α : Type}
/-- an append where the heap's size has a name of its own. -/
theorem R_append_at (d : Kd α) {w0 W : World} (base : Nat) (hgd : o.guard = none) (s x : Operand) (t e : TypeId) (z : Value) (bytes : Nat)
    (ho : o.op = .call { callee := .builtin .append, args := #[s, x], argTypes := #[t, t] })
    (ht : P.underlying t = some (.slice e)) (hinfo : (P.info? e).map (fun i => (i.zero, i.size, i.bytes)) = some (some z, d.sz, bytes)) (hz : z.cells.size = d.sz) (hs0 : 0 < d.sz) (hb0 : 0 < bytes)
    (v : Value) (xs : List α) (p : α) (cs : List Value) (ok okp : Nat → Prop) (hs : a.eval s = v) (H : Nat) (hH : W.heap.size = H) (hx : a.eval x = .slice (some ⟨H, 0, none⟩) 1 1) (hp : d.M W base okp p cs) (hokp : ∀ k, okp k → ok k ∧ some k ≠ v.ownBlock) (hfresh : ∀ k, H ≤ k → ok k)
    (HO : d.R e W base ok v xs) (HB : Below base w0 W) (hbase : base ≤ H) (hl : (xs.length + 1) * bytes ≤ 140737488355328)
    (h : ∀ v1 w1, d.R e w1 base ok v1 (xs ++ [p]) → Below base w0 w1 → W.grownBy w1 v.ownBlock → (v1.ownBlock = v.ownBlock ∨ ∃ b, v1.ownBlock = some b ∧ H ≤ b) → wpList P ops Q rest (a.put o.dst v1) w1) :
    wpList P ops Q (o :: rest) a (W.alloc (.cells cs.toArray e)) := by
  subst hH
  exact Kd.R_append d base hgd s x t e z bytes ho ht hinfo hz hs0 hb0 v xs p cs ok okp hs hx hp hokp hfresh HO HB hbase hl h
end
/-- the table's cells. -/
def placeCells (t : Nat → Pl) : Nat → List Value
  | 0 => []
  | n + 1 => placeCells t n ++ [.bool (t n).there, .int .u32 (t n).key, .int .i64 (t n).slot]
theorem placeCells_length (t : Nat → Pl) (n : Nat) : (placeCells t n).length = n * 3 := by
  induction n with
  | zero => rfl
  | succ n ih => simp [placeCells, ih]; omega
theorem placeCells_at (t : Nat → Pl) (n i : Nat) (h : i < n) : (placeCells t n)[i * 3]? = some (.bool (t i).there) ∧ (placeCells t n)[i * 3 + 1]? = some (.int .u32 (t i).key) ∧ (placeCells t n)[i * 3 + 2]? = some (.int .i64 (t i).slot) := by
  induction n with
  | zero => omega
  | succ n ih =>
    have hl := placeCells_length t n
    unfold placeCells
    by_cases e : i = n
    · subst e
      refine ⟨?_, ?_, ?_⟩
      · rw [List.getElem?_append_right (by omega), hl, Nat.sub_self]; rfl
      · rw [List.getElem?_append_right (by omega), hl, show i * 3 + 1 - i * 3 = 1 by omega]; rfl
      · rw [List.getElem?_append_right (by omega), hl, show i * 3 + 2 - i * 3 = 2 by omega]; rfl
    · have := ih (by omega)
      refine ⟨?_, ?_, ?_⟩
      · rw [List.getElem?_append_left (by omega)]; exact this.1
      · rw [List.getElem?_append_left (by omega)]; exact this.2.1
      · rw [List.getElem?_append_left (by omega)]; exact this.2.2
theorem Ix.range {W : World} {g : Nat} {t : Nat → Pl} {many room : Int} (h : Ix W g t many room) : W.rangeAt g 0 (placeCells t 128) := by
  intro j v hv
  have hl := placeCells_length t 128
  have hj : j < 128 * 3 := by rw [← hl]; exact (List.getElem?_eq_some_iff.1 hv).1
  have hp := placeCells_at t 128 (j / 3) (by omega)
  rw [Nat.zero_add]
  have hm : j = j / 3 * 3 ∨ j = j / 3 * 3 + 1 ∨ j = j / 3 * 3 + 2 := by omega
  rcases hm with e | e | e
  · rw [e] at hv ⊢; rw [hp.1] at hv; rw [← hv]; exact h.there _ (by omega)
  · rw [e] at hv ⊢; rw [hp.2.1] at hv; rw [← hv]; exact h.key _ (by omega)
  · rw [e] at hv ⊢; rw [hp.2.2] at hv; rw [← hv]; exact h.slot _ (by omega)
theorem placeCells_take (t : Nat → Pl) (n i : Nat) (h : i < n) : List.take 3 (List.drop (i * 3) (placeCells t n)) = [.bool (t i).there, .int .u32 (t i).key, .int .i64 (t i).slot] := by
  have hl := placeCells_length t n
  have hp := placeCells_at t n i h
  apply List.ext_getElem?
  intro j
  by_cases hj : j < 3
  · rw [List.getElem?_take_of_lt hj, List.getElem?_drop]
    have : j = 0 ∨ j = 1 ∨ j = 2 := by omega
    rcases this with rfl | rfl | rfl
    · rw [Nat.add_zero, hp.1]; rfl
    · rw [hp.2.1]; rfl
    · rw [hp.2.2]; rfl
  · rw [List.getElem?_eq_none (by simp; omega), List.getElem?_eq_none (by simp; omega)]
theorem run_place (t : Nat → Pl) (i : Nat) (h : i < 128) (w : World) : (Instr.index 51 (.agg (placeCells t 128).toArray) (.int .i64 (i : Int))).run Tryd.prog w = .ok (.agg #[.bool (t i).there, .int .u32 (t i).key, .int .i64 (t i).slot]) w := by
  have hu : Tryd.prog.underlying 51 = some (.array 128 50) := by kernel_rfl
  have hz : (sizeOf 50).run Tryd.prog w = .ok 3 w := by kernel_rfl
  have hi : (0 : Int) ≤ (i : Int) ∧ (i : Int) < (128 : Nat) := by omega
  have hp := placeCells_take t 128 i h
  simp [Instr.index, part, asIntOf, run_underlying hu, hz, h, hp, go_sem]
def keysL (t : Nat → Pl) (n : Nat) : List Int := (holds t n).map (·.1)
theorem keysL_succ (t : Nat → Pl) (n : Nat) : keysL t (n + 1) = if (t n).there then keysL t n ++ [(t n).key] else keysL t n := by
  unfold keysL; rw [holds_succ]; unfold opt; split <;> simp
theorem keysL_length (t : Nat → Pl) (n : Nat) : (keysL t n).length ≤ n := by
  induction n with
  | zero => exact Nat.le_refl _
  | succ n ih => rw [keysL_succ]; split
                 · simp; omega
                 · omega
set_option maxRecDepth 100000 in
set_option maxHeartbeats 1000000 in
theorem keys_calls (g : Nat) (t : Nat → Pl) (many room : Int) (k : Nat) (r : List Int) (w : World) (hI : Ix w g t many room) (h : S.slices_Sort_uint32_uint32.f k (keysL t 128) = some r) :
    Calls Tryd.prog 16 #[.pointer (some ⟨g, 0, none⟩)] w fun e w' => ∃ v, e = .returned v ∧ Kd.R (Kd.int .u32) 23 w' w.heap.size (fun k => w.heap.size ≤ k) v r ∧ Below w.heap.size w w' := by
  have HI := Aside0.mk hI
  have H := Aside0.mk h
  have hru := hI.range
  have hlt := hI.lt
  have hu : Tryd.prog.underlying 51 = some (.array 128 50) := by kernel_rfl
  have hi : (Tryd.prog.info? 51).map (·.size) = some (placeCells t 128).length := by rw [placeCells_length]; kernel_rfl
  obtain ⟨cs, hcs⟩ : ∃ cs, placeCells t 128 = cs := ⟨_, rfl⟩
  have hpl := run_place t
  rw [hcs] at hru hi hpl
  have HP := Aside0.mk hpl
  have HR := Aside0.mk hru
  have HU := Aside0.mk hu
  have HV := Aside0.mk hi
  clear hI h hru hu hi hpl hcs
  go_enter Tryd.func16, Tryd.ntmps16
  go_wp2_with ((refine wpList_load_mid (by rfl) 51 (.tmp 8) (by rfl) g 0 (by rfl) cs _ HR.out HU.out (by rfl) HV.out ?_))
  have info23 : (Tryd.prog.info? 23).map (fun i => (i.zero, i.size, i.bytes)) = some (some (.int .u32 0), 1, 4) := by kernel_rfl
  have HN := Aside0.mk info23
  clear info23
  obtain ⟨B, hB⟩ : ∃ B, w.heap.size = B := ⟨_, rfl⟩
  have HB := Aside0.mk hB
  have hlt' : g < B := by rw [← hB]; exact hlt
  have HL : Below B w w := Below.refl _ _
  clear hB hlt
  go_loopg [3, 10] 128 (fun kq v3 v10 w' => ∃ n : Nat, v10 = .int .i64 (n : Int) ∧ Aside0 (n + kq = 128) ∧ Aside0 (Kd.R (Kd.int .u32) 23 w' B (fun k => B ≤ k) v3 (keysL t n)) ∧ Below B w w')
  case atStart => exact ⟨0, rfl, .mk rfl, .mk (Kd.R_nil _ _ _ _ _), HL⟩
  case round =>
    clear HL
    obtain ⟨n, rfl, HE, HK, hb⟩ := hrel
    have hsz : B ≤ wr.heap.size := by have := hb.size; have := HB.out; omega
    by_cases hn : n < 128
    · have hx := HP.out n hn
      have HKN := Aside0.mk (keysL_succ t n)
      have HLN := Aside0.mk (keysL_length t n)
      have b1 : (n : Int) < 128 := by omega
      have d1 : decide ((n : Int) < 128) = true := decide_eq_true b1
      have e3 : wrap64 ((n : Int) + 1) = (n : Int) + 1 := IntWalk.wrap64_in _ ⟨by omega, by omega⟩
      obtain ⟨p, hp⟩ : ∃ p, t n = p := ⟨_, rfl⟩
      rw [hp] at hx HKN
      obtain ⟨th, ky, sl⟩ := p
      dsimp only at hx HKN
      have HN' := Aside0.mk hn
      clear hp hn
      cases th with
      | true =>
        rw [if_pos rfl] at HKN
        have ok23 : (Kd.int .u32).R 23 (wr.alloc (.cells #[.bool true, .int .u32 ky, .int .i64 sl] 50)) B (fun k => B ≤ k) u3 (keysL t n) := Kd.R_below HK.out (below_alloc (Below.refl _ _) _)
        have hbb : Below B w (wr.alloc (.cells #[.bool true, .int .u32 ky, .int .i64 sl] 50)) := hb.alloc hsz _
        have hH1 : (wr.alloc (.cells #[.bool true, .int .u32 ky, .int .i64 sl] 50)).heap.size = wr.heap.size + 1 := by simp
        have OK := Aside0.mk ok23
        have HH1 := Aside0.mk hH1
        have HF1 : ∀ k : Nat, wr.heap.size + 1 ≤ k → B ≤ k := fun k hk => by omega
        have HF2 : B ≤ wr.heap.size + 1 := by omega
        have HF3 : ((keysL t n).length + 1) * 4 ≤ 140737488355328 := by have := HLN.out; have := HN'.out; omega
        clear ok23 hH1
        go_wp2_with ((at_builtin; refine R_append_at (Kd.int .u32) (w0 := w) B rfl (.tmp 15) (.tmp 18) 46 23 (.int .u32 0) 4 rfl Tryd.underlying46 HN.out rfl (by decide) (by omega) u3 (keysL t n) ky [.int .u32 ky] (fun k => B ≤ k) (fun _ => False) rfl (wr.heap.size + 1) HH1.out rfl rfl (fun _ hk => hk.elim) HF1 OK.out hbb HF2 HF3 ?_; intro v1 w1 hR1 hb1 _ _))
        clear HF1 HF2 HF3
        have HR1 := Aside0.mk hR1
        clear hR1
        go_wp2
        go_roundg (gk - 1)
        case measure => have := HE.out; have := HN'.out; omega
        case rel => exact ⟨n + 1, by rw [Int.natCast_add]; rfl, .mk (by have := HE.out; have := HN'.out; omega), .mk (by rw [HKN.out]; exact HR1.out), hb1⟩
      | false =>
        rw [if_neg (by simp)] at HKN
        have ok23 : (Kd.int .u32).R 23 (wr.alloc (.cells #[.bool false, .int .u32 ky, .int .i64 sl] 50)) B (fun k => B ≤ k) u3 (keysL t n) := Kd.R_below HK.out (below_alloc (Below.refl _ _) _)
        have hbb : Below B w (wr.alloc (.cells #[.bool false, .int .u32 ky, .int .i64 sl] 50)) := hb.alloc hsz _
        have OK := Aside0.mk ok23
        clear ok23
        go_wp2
        refine Handed.intro (gk - 1) ?measure2 ?_
        rotate_left
        go_step
        (repeat apply Exists.intro)
        refine ⟨?rel2, rfl⟩
        case measure2 => have := HE.out; have := HN'.out; omega
        case rel2 => exact ⟨n + 1, by rw [Int.natCast_add]; rfl, .mk (by have := HE.out; have := HN'.out; omega), .mk (by rw [HKN.out]; exact OK.out), hbb⟩
    · have hn' : n = 128 := by have := HE.out; omega
      subst hn'
      obtain rfl := HB.out
      clear HP
      go_wp2_with ((go_at_call 21; refine (S.slices_Sort_uint32_uint32.calls k (fun k => w.heap.size ≤ k) u3 (keysL t 128) r w wr hb HK.out H.out).mono ?_; rintro e w2 ⟨rfl, hR2, hb2, _⟩))
      go_ret
      exact ⟨_, rfl, Kd.R_mono hR2 (fun k hk => by rcases hk with h | h; exact h; omega), hb2⟩
end Go.Proofs.YtpbjabpakkjomaaDoor
