/- What reads as a value of a type holds cells of its kind. -/
import Derived.Test.YtpbjabpakkjomaaDoorProg
import Derived.Test.YtpbjabpakkjomaaDoorWWords
import Derived.Deep.Slices
import Derived.ChangeArms
import Derived.ProofKit
namespace Go.Proofs.YtpbjabpakkjomaaDoor.Opn
open Go.RowKit Go.Proofs.YtpbjabpakkjomaaDoorW.PrintWords Go.Deep
/-- Whatever reads as a value of type T holds cells of the kind d. -/
structure Opens {α : Type} (P : Program) (T : TypeId) (d : Kd α) (wf : α → Prop) : Prop where
  sz : P.cellsOf T = d.sz
  op : ∀ {H : Type} (enc : TypeId × Value → H) (w : World) (fuel : Nat) (cs : List Value) (x : DataW H × List MemPlace), DataW.trod enc P w 0 (fun _ => true) true fuel T cs = some x → ∃ a, d.K w a cs ∧ wf a
theorem opens_int {P : Program} {T : TypeId} {k : IntKind} (h : P.underlying T = some (.int k)) (hs : P.cellsOf T = 1) : Opens P T (Kd.int k) (fun n => (Lit.int k n).wf = true) :=
  ⟨hs, fun enc w fuel cs x hx => by
    obtain ⟨n, rfl, _, hw⟩ := DataW.trod_int h hx
    exact ⟨n, rfl, hw⟩⟩
theorem opens_bool {P : Program} {T : TypeId} (h : P.underlying T = some .bool) (hs : P.cellsOf T = 1) : Opens P T Kd.bool (fun _ => True) :=
  ⟨hs, fun enc w fuel cs x hx => by
    obtain ⟨n, rfl, _⟩ := DataW.trod_bool h hx
    exact ⟨n, rfl, trivial⟩⟩
theorem opens_string {P : Program} {T : TypeId} (h : P.underlying T = some .string) (hs : P.cellsOf T = 1) : Opens P T Kd.string (fun s => s.size ≤ maxLen) :=
  ⟨hs, fun enc w fuel cs x hx => by
    obtain ⟨n, rfl, _, hw⟩ := DataW.trod_string h hx
    exact ⟨n, rfl, hw⟩⟩
theorem cells_get {w : World} {base : Nat} {a : Addr} {n : Nat} {cs : List Value} (h : w.cells? base a n = some cs) : cs.length = n ∧ ∀ i u, cs[i]? = some u → w.cell? (a.add i) = some u := by
  obtain ⟨_, hl, hc⟩ := World.cells?_some h
  refine ⟨hl, fun i u hi => ?_⟩
  have hlt : i < n := by rw [← hl]; exact (List.getElem?_eq_some_iff.1 hi).1
  rw [← hi]
  exact hc i hlt
theorem opens_slice {α : Type} {P : Program} {T e : TypeId} {d : Kd α} {wf : α → Prop} (h : P.underlying T = some (.slice e)) (hs : P.cellsOf T = 1) (ho : Opens P e d wf) : Opens P T (Kd.slice e d) (fun l => l.length ≤ maxLen ∧ ∀ a ∈ l, wf a) :=
  ⟨hs, fun enc w fuel cs x hx => by
    rcases open_slice h hx with ⟨rfl, _⟩ | ⟨a, len, cap, m, n, D, Pl, rfl, _, hlc, hcm, hm, _, hel⟩
    · exact ⟨[], ⟨none, 0, rfl, by simp, by simp [Kd.C, ReadsRow]⟩, by simp, by simp⟩
    · have hlm : len ≤ m := by rw [hm]; split <;> omega
      have : ∀ i, i < len → ∃ y, ∃ cs', w.cells? 0 (a.add (i * P.cellsOf e)) (P.cellsOf e) = some cs' ∧ d.K w y cs' ∧ wf y := fun i hi => by
        obtain ⟨cs', hc, ht⟩ := hel i (by omega)
        obtain ⟨y, hk, hw⟩ := ho.op enc w n cs' _ ht
        exact ⟨y, cs', hc, hk, hw⟩
      obtain ⟨l, hll, hl⟩ : ∃ l : List α, l.length = len ∧ ∀ i y, l[i]? = some y → ∃ cs', w.cells? 0 (a.add (i * P.cellsOf e)) (P.cellsOf e) = some cs' ∧ d.K w y cs' ∧ wf y := by
        refine ⟨(List.range len).attach.map (fun i => Classical.choose (this i.1 (List.mem_range.1 i.2))), by simp, fun i y hy => ?_⟩
        rw [List.getElem?_map] at hy
        obtain ⟨z, hz, rfl⟩ := Option.map_eq_some_iff.1 hy
        have hz' : z.1 = i := by
          have h1 := (List.getElem?_eq_some_iff.1 hz)
          obtain ⟨h2, h3⟩ := h1
          rw [← h3]; simp
        subst hz'
        exact Classical.choose_spec (this z.1 (List.mem_range.1 z.2))
      refine ⟨l, ⟨some a, cap, by rw [hll], by omega, rfl, by rw [hll]; unfold maxLen at hcm; omega, fun _ => ⟨a, rfl, fun j p hj => ?_⟩⟩, by omega, fun y hy => ?_⟩
      · obtain ⟨cs', hc, hk, _⟩ := hl j p hj
        obtain ⟨h1, h2⟩ := cells_get hc
        refine ⟨cs', by rw [h1, ho.sz], hk, fun i u hu => ?_⟩
        have := h2 i u hu
        rw [Deep.add_add, ho.sz] at this
        exact this
      · obtain ⟨i, hi⟩ := List.getElem?_of_mem hy
        obtain ⟨_, _, _, hw⟩ := hl i y hi
        exact hw⟩
/-- A struct's fields from one on, in line. -/
structure Segs {α : Type} (P : Program) (fs : List Field) (off : Nat) (d : Kd α) (wf : α → Prop) : Prop where
  op : ∀ {H : Type} (enc : TypeId × Value → H) (w : World) (n : Nat) (cs : List Value), cs.length = off + d.sz →
    (∀ f ∈ fs, ∃ y, DataW.trod enc P w 0 (fun _ => true) true n f.type ((cs.drop f.offset).take (P.cellsOf f.type)) = some y) → ∃ a, d.K w a (cs.drop off) ∧ wf a
theorem segs_one {α : Type} {P : Program} {f : Field} {off : Nat} {d : Kd α} {wf : α → Prop} (hf : f.offset = off) (h : Opens P f.type d wf) : Segs P [f] off d wf := ⟨fun enc w n cs hl hy => by
  obtain ⟨y, hy⟩ := hy f List.mem_cons_self
  obtain ⟨a, hk, hw⟩ := h.op enc w n _ _ hy
  rw [hf, List.take_of_length_le (by rw [List.length_drop, h.sz]; omega)] at hk
  exact ⟨a, hk, hw⟩⟩
theorem segs_cons {α β : Type} {P : Program} {f : Field} {fs : List Field} {off : Nat} {a : Kd α} {b : Kd β} {wa : α → Prop} {wb : β → Prop} (hf : f.offset = off) (h : Opens P f.type a wa) (hs : Segs P fs (off + a.sz) b wb) :
    Segs P (f :: fs) off (Kd.pair a b) (fun p => wa p.1 ∧ wb p.2) := ⟨fun enc w n cs hl hy => by
  obtain ⟨y, hy0⟩ := hy f List.mem_cons_self
  obtain ⟨x, hk, hw⟩ := h.op enc w n _ _ hy0
  have hl' : cs.length = off + (a.sz + b.sz) := hl
  obtain ⟨z, hk2, hw2⟩ := hs.op enc w n cs (by omega) (fun g hg => hy g (List.mem_cons_of_mem _ hg))
  refine ⟨(x, z), ⟨_, _, ?_, hk, hk2⟩, hw, hw2⟩
  rw [hf, h.sz, ← List.drop_drop, List.take_append_drop]⟩
theorem opens_struct {α β : Type} {P : Program} {T : TypeId} {fs : Array Field} {d : Kd α} {wf : α → Prop} (ht : P.underlying T = some (.struct fs)) (hs : P.cellsOf T = d.sz) (f : β → α) (g : α → β) (hfg : ∀ x, f (g x) = x) (h : Segs P fs.toList 0 d wf) :
    Opens P T (Kd.iso d f) (fun s => wf (f s)) :=
  ⟨hs, fun enc w fuel cs x hx => by
    obtain ⟨xs, n, _, _, hl, hlen, hfi⟩ := DataW.trod_struct ht hx
    obtain ⟨a, hk, hw⟩ := h.op enc w n cs (by omega) (fun f hf => by
      obtain ⟨i, hi⟩ := List.getElem?_of_mem hf
      have hi' : fs[i]? = some f := by simpa using hi
      have := hfi i f hi'
      have hil : i < fs.size := (Array.getElem?_eq_some_iff.1 hi').1
      rw [List.getElem?_eq_getElem (by omega)] at this
      exact ⟨_, this⟩)
    exact ⟨g a, by show d.K w (f (g a)) cs; rw [hfg]; exact hk, by rw [hfg]; exact hw⟩⟩
theorem opens_struct2 {T0 T1 β : Type} {P : Program} {T : TypeId} {f0 f1 : Field} {d0 : Kd T0} {w0 : T0 → Prop} {d1 : Kd T1} {w1 : T1 → Prop} (ht : P.underlying T = some (.struct #[f0, f1])) (hs : P.cellsOf T = (Kd.pair d0 d1).sz) (e0 : f0.offset = 0) (e1 : f1.offset = 0 + d0.sz) (f : β → (T0 × T1)) (g : (T0 × T1) → β) (hfg : ∀ x, f (g x) = x) (h0 : Opens P f0.type d0 w0) (h1 : Opens P f1.type d1 w1) :
    Opens P T (Kd.iso (Kd.pair d0 d1) f) (fun s => w0 (f s).1 ∧ w1 (f s).2) :=
  opens_struct (wf := fun p => w0 p.1 ∧ w1 p.2) ht hs f g hfg (segs_cons e0 h0 (segs_one e1 h1))

theorem opens_struct3 {T0 T1 T2 β : Type} {P : Program} {T : TypeId} {f0 f1 f2 : Field} {d0 : Kd T0} {w0 : T0 → Prop} {d1 : Kd T1} {w1 : T1 → Prop} {d2 : Kd T2} {w2 : T2 → Prop} (ht : P.underlying T = some (.struct #[f0, f1, f2])) (hs : P.cellsOf T = (Kd.pair d0 (Kd.pair d1 d2)).sz) (e0 : f0.offset = 0) (e1 : f1.offset = 0 + d0.sz) (e2 : f2.offset = 0 + d0.sz + d1.sz) (f : β → (T0 × (T1 × T2))) (g : (T0 × (T1 × T2)) → β) (hfg : ∀ x, f (g x) = x) (h0 : Opens P f0.type d0 w0) (h1 : Opens P f1.type d1 w1) (h2 : Opens P f2.type d2 w2) :
    Opens P T (Kd.iso (Kd.pair d0 (Kd.pair d1 d2)) f) (fun s => w0 (f s).1 ∧ w1 (f s).2.1 ∧ w2 (f s).2.2) :=
  opens_struct (wf := fun p => w0 p.1 ∧ w1 p.2.1 ∧ w2 p.2.2) ht hs f g hfg (segs_cons e0 h0 (segs_cons e1 h1 (segs_one e2 h2)))

theorem opens_struct4 {T0 T1 T2 T3 β : Type} {P : Program} {T : TypeId} {f0 f1 f2 f3 : Field} {d0 : Kd T0} {w0 : T0 → Prop} {d1 : Kd T1} {w1 : T1 → Prop} {d2 : Kd T2} {w2 : T2 → Prop} {d3 : Kd T3} {w3 : T3 → Prop} (ht : P.underlying T = some (.struct #[f0, f1, f2, f3])) (hs : P.cellsOf T = (Kd.pair d0 (Kd.pair d1 (Kd.pair d2 d3))).sz) (e0 : f0.offset = 0) (e1 : f1.offset = 0 + d0.sz) (e2 : f2.offset = 0 + d0.sz + d1.sz) (e3 : f3.offset = 0 + d0.sz + d1.sz + d2.sz) (f : β → (T0 × (T1 × (T2 × T3)))) (g : (T0 × (T1 × (T2 × T3))) → β) (hfg : ∀ x, f (g x) = x) (h0 : Opens P f0.type d0 w0) (h1 : Opens P f1.type d1 w1) (h2 : Opens P f2.type d2 w2) (h3 : Opens P f3.type d3 w3) :
    Opens P T (Kd.iso (Kd.pair d0 (Kd.pair d1 (Kd.pair d2 d3))) f) (fun s => w0 (f s).1 ∧ w1 (f s).2.1 ∧ w2 (f s).2.2.1 ∧ w3 (f s).2.2.2) :=
  opens_struct (wf := fun p => w0 p.1 ∧ w1 p.2.1 ∧ w2 p.2.2.1 ∧ w3 p.2.2.2) ht hs f g hfg (segs_cons e0 h0 (segs_cons e1 h1 (segs_cons e2 h2 (segs_one e3 h3))))

end Go.Proofs.YtpbjabpakkjomaaDoor.Opn
