/- The index's object as a list: contracts over what it holds. -/
import Derived.Test.YtpbjabpakkjomaaDoorIE
import Derived.Test.YtpbjabpakkjomaaDoorRC
import Derived.Test.YtpbjabpakkjomaaDoorT5
namespace Go.Proofs.YtpbjabpakkjomaaDoor
open Go.RowKit Go.Proofs.YtpbjabpakkjomaaDoorW.PrintWords Go.Proofs.YtpbjabpakkjomaaDoorW.PrintLast Go.Proofs.YtpbjabpakkjomaaDoorW.PrintMore
set_option linter.unusedVariables false
set_option linter.unusedSimpArgs false

/-- an index's object that holds a list. -/
def Io (W : World) (g : Nat) (L : List (Int × Int)) (room : Int) : Prop := ∃ t many, Ix W g t many room ∧ Rel t many L
theorem Ix.of_block {W W' : World} {g : Nat} {t : Nat → Pl} {many room : Int} (h : Ix W g t many room) (hb : W'.heap[g]? = W.heap[g]?) : Ix W' g t many room :=
  ⟨fun i hi => (World.cell?_of_block (a := ⟨g, i * 3, none⟩) hb).trans (h.there i hi), fun i hi => (World.cell?_of_block (a := ⟨g, i * 3 + 1, none⟩) hb).trans (h.key i hi), fun i hi => (World.cell?_of_block (a := ⟨g, i * 3 + 2, none⟩) hb).trans (h.slot i hi),
    (World.cell?_of_block (a := ⟨g, 384, none⟩) hb).trans h.many, (World.cell?_of_block (a := ⟨g, 385, none⟩) hb).trans h.room, fun o => (World.frozen?_of_block (a := ⟨g, o, none⟩) hb).trans (h.free o)⟩
theorem Io.of_block {W W' : World} {g : Nat} {L : List (Int × Int)} {room : Int} (h : Io W g L room) (hb : W'.heap[g]? = W.heap[g]?) : Io W' g L room := by
  obtain ⟨t, many, h1, h2⟩ := h
  exact ⟨t, many, h1.of_block hb, h2⟩
theorem Io.lt {W : World} {g : Nat} {L : List (Int × Int)} {room : Int} (h : Io W g L room) : g < W.heap.size := by
  obtain ⟨t, many, h1, _⟩ := h
  exact h1.lt
theorem Io.keep {W W' : World} {g g' : Nat} {L : List (Int × Int)} {room : Int} (h : Io W g L room) (hk : KB W W' g') (hg : g ≠ g') : Io W' g L room := h.of_block (hk.keep.2 g h.lt hg (by simp))
theorem Io.below {W W' : World} {g : Nat} {L : List (Int × Int)} {room : Int} (h : Io W g L room) (hb : Below W.heap.size W W') : Io W' g L room := h.of_block (hb.block g h.lt)
theorem getR_of_mem {L : List (Int × Int)} (h : L.Pairwise fun p q => p.1 < q.1) {k s : Int} (hm : (k, s) ∈ L) : getR L k = (s, true) := by
  have := refGet_some h hm
  unfold refGet at this
  unfold getR
  cases hf : L.find? (fun p => p.1 == k) with
  | none => rw [hf] at this; cases this
  | some p => rw [hf] at this; simp at this; simp [this]
theorem getR_of_not {L : List (Int × Int)} {k : Int} (hm : ∀ s, (k, s) ∉ L) : getR L k = (0, false) := by
  have := refGet_none hm
  unfold refGet at this
  unfold getR
  cases hf : L.find? (fun p => p.1 == k) with
  | none => rfl
  | some p => rw [hf] at this; cases this
theorem Found.getR {t : Nat → Pl} {many : Int} {L : List (Int × Int)} (h : Rel t many L) {key : Int} {r : Nat} (f : Found t L key r) : getR L key = (if (t r).there then (t r).slot else 0, (t r).there) := by
  cases ht : (t r).there with
  | true => exact getR_of_mem h.rise (f.is ht)
  | false => exact getR_of_not (f.no ht)
theorem get_io (g : Nat) (L : List (Int × Int)) (room key : Int) (w : World) (h : Io w g L room) :
    Calls Tryd.prog 12 #[.pointer (some ⟨g, 0, none⟩), .int .u32 key] w fun e w' => e = .returned (.tuple #[.int .i64 (getR L key).1, .bool (getR L key).2]) ∧ Below w.heap.size w w' := by
  obtain ⟨t, many, hI, hR⟩ := h
  obtain ⟨r, f⟩ := hR.found key
  rw [f.getR hR]
  exact get_calls g t many room key 128 r w hI f.find f.lt
theorem len_io (g : Nat) (L : List (Int × Int)) (room : Int) (w : World) (h : Io w g L room) :
    Calls Tryd.prog 14 #[.pointer (some ⟨g, 0, none⟩)] w fun e w' => e = .returned (.int .i64 (L.length : Int)) ∧ w' = w := by
  obtain ⟨t, many, hI, hR⟩ := h
  rw [← hR.many]
  exact len_ix_calls g t many room w hI
def putB (L : List (Int × Int)) (key room : Int) : Bool := (getR L key).2 || decide ((L.length : Int) < room)
def putL (L : List (Int × Int)) (key slot room : Int) : List (Int × Int) := if putB L key room then refIns (refDrop L key) key slot else L
theorem put_io (g : Nat) (L : List (Int × Int)) (room key slot : Int) (w : World) (h : Io w g L room) (hk : 0 ≤ key ∧ key < 4294967296) (h1 : (L.length : Int) ≤ room) (h2 : room ≤ 64) :
    Calls Tryd.prog 8 #[.pointer (some ⟨g, 0, none⟩), .int .u32 key, .int .i64 slot] w fun e w' => e = .returned (.bool (putB L key room)) ∧ Io w' g (putL L key slot room) room ∧ KB w w' g := by
  obtain ⟨t, many, hI, hR⟩ := h
  obtain ⟨r, f⟩ := hR.found key
  have hg := f.getR hR
  cases ht : (t r).there with
  | true =>
    have hb : putB L key room = true := by unfold putB; rw [hg, ht]; rfl
    have hl : putL L key slot room = refIns (refDrop L key) key slot := by unfold putL; rw [if_pos hb]
    rw [hb, hl]
    refine (put_there g t many room key slot 128 r w hI f.find f.lt ht).mono fun e w' hh => ⟨hh.1, ⟨_, _, hh.2.1, ?_⟩, hh.2.2⟩
    have := hR.put f slot hk (Or.inl ht)
    rw [ht] at this
    exact this
  | false =>
    by_cases hm : many = room
    · have hb : putB L key room = false := by unfold putB; rw [hg, ht]; have := hR.many; simp; omega
      have hl : putL L key slot room = L := by unfold putL; rw [if_neg (by rw [hb]; decide)]
      rw [hb, hl]
      refine (put_full g t many room key slot 128 r w hI f.find f.lt ht hm).mono fun e w' hh => ⟨hh.1, ?_⟩
      obtain ⟨_, n, rfl⟩ := hh
      exact ⟨⟨t, many, hI.below hI.lt (pw_below_drewN (Below.refl _ _) n), hR⟩, KB.of_below (pw_below_drewN (Below.refl _ _) n) _⟩
    · have hlt : (L.length : Int) < room := by have := hR.many; omega
      have hb : putB L key room = true := by unfold putB; rw [hg, ht]; simpa using hlt
      have hl : putL L key slot room = refIns (refDrop L key) key slot := by unfold putL; rw [if_pos hb]
      rw [hb, hl]
      have := hR.many
      refine (put_new g t many room key slot 128 r w hI f.find f.lt ht hm (by omega)).mono fun e w' hh => ⟨hh.1, ⟨_, _, hh.2.1, ?_⟩, hh.2.2⟩
      have := hR.put f slot hk (Or.inr (by omega))
      rw [ht] at this
      exact this
theorem drop_io (g : Nat) (L : List (Int × Int)) (room key : Int) (w : World) (h : Io w g L room) :
    Calls Tryd.prog 10 #[.pointer (some ⟨g, 0, none⟩), .int .u32 key] w fun e w' => e = .returned (.bool (decide ((refDrop L key).length < L.length))) ∧ Io w' g (refDrop L key) room ∧ KB w w' g := by
  obtain ⟨t, many, hI, hR⟩ := h
  obtain ⟨r, f⟩ := hR.found key
  cases ht : (t r).there with
  | true =>
    have hd := refDrop_len hR.rise (f.is ht)
    rw [decide_eq_true (show (refDrop L key).length < L.length by omega)]
    obtain ⟨u, h1, h2⟩ := hR.drop f ht
    have hm := hR.many
    have hs := hR.small
    exact (drop_yes g t u many room key 128 128 r w hI f.find f.lt ht (by omega) h1).mono fun e w' hh => ⟨hh.1, ⟨_, _, hh.2.1, h2⟩, hh.2.2⟩
  | false =>
    rw [refDrop_same (f.no ht), decide_eq_false (Nat.lt_irrefl _)]
    refine (drop_no g t many room key 128 r w hI f.find f.lt ht).mono fun e w' hh => ⟨hh.1, ?_⟩
    obtain ⟨_, rfl⟩ := hh
    exact ⟨⟨t, many, hI, hR⟩, KB.refl _ _⟩
theorem keys_io (g : Nat) (L : List (Int × Int)) (room : Int) (w : World) (h : Io w g L room) :
    Calls Tryd.prog 16 #[.pointer (some ⟨g, 0, none⟩)] w fun e w' => ∃ v, e = .returned v ∧ Kd.R (Kd.int .u32) 23 w' w.heap.size (fun k => w.heap.size ≤ k) v (L.map (·.1)) ∧ Below w.heap.size w w' := by
  obtain ⟨t, many, hI, hR⟩ := h
  have hk := hR.keys
  obtain ⟨k, hs⟩ := (S.sort_ev (keysL t 128) (by have := keysL_length t 128; omega)).rounds
  have : (keysL t 128).mergeSort (fun x y => decide (x ≤ y)) = L.map (·.1) := hk
  rw [this] at hs
  exact keys_calls g t many room k _ w hI hs
theorem put_ref (g base gi : Nat) (L : List (Int × Int)) (room key slot : Int) (w : World) (hR : Rx w g base gi L room) (hL : L.length ≤ 64) (hbase : base ≤ w.heap.size) (hgi : gi < w.heap.size) :
    Calls Tryd.prog 9 #[.pointer (some ⟨g, 0, none⟩), .int .u32 key, .int .i64 slot] w fun e w' => e = .returned (.bool (putB L key room)) ∧ Rx w' g base gi (putL L key slot room) room ∧ KB w w' g := by
  by_cases h : (getR L key).2 = true ∨ ¬ room ≤ (L.length : Int)
  · have hb : putB L key room = true := by unfold putB; rcases h with h | h; rw [h]; rfl; simp; omega
    have hl : putL L key slot room = refIns (refDrop L key) key slot := by unfold putL; rw [if_pos hb]
    rw [hb, hl]
    exact put_ref_ok g base gi L room key slot w hR hL hbase hgi h
  · have h1 : (getR L key).2 = false := by
      cases hh : (getR L key).2 with
      | true => exact absurd (Or.inl hh) h
      | false => rfl
    have h2 : room ≤ (L.length : Int) := by
      by_cases h2 : room ≤ (L.length : Int)
      · exact h2
      · exact absurd (Or.inr h2) h
    have hb : putB L key room = false := by unfold putB; rw [h1]; simp; omega
    have hl : putL L key slot room = L := by unfold putL; rw [if_neg (by rw [hb]; decide)]
    rw [hb, hl]
    refine (put_ref_full g base gi L room key slot w hR hL h1 h2).mono fun e w' hh => ⟨hh.1, ?_⟩
    obtain ⟨_, n, rfl⟩ := hh
    exact ⟨hR.below (pw_below_drewN (Below.refl _ _) n), KB.of_below (pw_below_drewN (Below.refl _ _) n) _⟩
/-- the list stays within the room. -/
theorem putL_le (L : List (Int × Int)) (h : L.Pairwise fun p q => p.1 < q.1) (key slot room : Int) (h1 : (L.length : Int) ≤ room) : ((putL L key slot room).length : Int) ≤ room := by
  unfold putL
  split
  · rename_i hb
    have hp := (refIns_perm (refDrop L key) key slot).length_eq
    rw [List.length_cons] at hp
    by_cases hs : ∃ s, (key, s) ∈ L
    · obtain ⟨s, hs⟩ := hs
      have := refDrop_len h hs
      omega
    · have hn : ∀ s, (key, s) ∉ L := fun s hm => hs ⟨s, hm⟩
      unfold putB at hb
      rw [getR_of_not hn] at hb
      rw [refDrop_same hn] at hp ⊢
      simp at hb
      omega
  · exact h1
theorem Io.rise {W : World} {g : Nat} {L : List (Int × Int)} {room : Int} (h : Io W g L room) : L.Pairwise fun p q => p.1 < q.1 := by
  obtain ⟨t, many, h1, h2⟩ := h
  exact h2.rise
end Go.Proofs.YtpbjabpakkjomaaDoor
