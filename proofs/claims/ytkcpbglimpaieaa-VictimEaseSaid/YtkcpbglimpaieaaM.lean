/- The order of zones is a strict weak order, and there is one sorted row of zones whose ids are apart. -/
import Derived.Test.YtkcpbglimpaieaaA
import Derived.Shelf.SlSortCmp.WholeK
namespace Go.Proofs.Ytkcpbglimpaieaa
open Go.RowKit Go.Shelf Go.Sort

abbrev ZP (P : Nat) := { z : Z // z.ok P }
instance (P : Nat) : Inhabited (ZP P) := ⟨⟨⟨0, 0, 0⟩, ⟨by decide, by simp, by decide, by decide⟩⟩⟩

theorem mul_lt_cancel {a b d : Int} (hd : 0 < d) (h : a * d < b * d) : a < b := Int.lt_of_mul_lt_mul_right h (Int.le_of_lt hd)
theorem mul_le_cancel {a b d : Int} (hd : 0 < d) (h : a * d ≤ b * d) : a ≤ b := Int.le_of_mul_le_mul_right h hd
/-- x may stand ahead of y. -/
def Q (pol : Int) (P : Nat) (x y : Z) : Prop := if pol = 0 then x.va ≤ y.va else good P y x ≤ good P x y
theorem Q_total (pol : Int) (P : Nat) (x y : Z) : Q pol P x y ∨ Q pol P y x := by
  unfold Q; split <;> omega
theorem Q_trans (pol : Int) (P : Nat) {x y z : Z} (hx : x.ok P) (hy : y.ok P) (hz : z.ok P) (h : Q pol P x y) (k : Q pol P y z) : Q pol P x z := by
  unfold Q at *
  split at h
  · rw [if_pos ‹_›] at *; omega
  · rw [if_neg ‹_›] at *
    unfold good at *
    have dx : 0 < x.va + 1 := by have := hx.v0; omega
    have dy : 0 < y.va + 1 := by have := hy.v0; omega
    have dz : 0 < z.va + 1 := by have := hz.v0; omega
    generalize (x.ag + 1) * ((P : Int) - x.va) = nx at *
    generalize (y.ag + 1) * ((P : Int) - y.va) = ny at *
    generalize (z.ag + 1) * ((P : Int) - z.va) = nz at *
    generalize x.va + 1 = ex at *
    generalize y.va + 1 = ey at *
    generalize z.va + 1 = ez at *
    refine mul_le_cancel dy ?_
    calc nz * ex * ey = nz * ey * ex := by rw [Int.mul_right_comm]
      _ ≤ ny * ez * ex := Int.mul_le_mul_of_nonneg_right k (Int.le_of_lt dx)
      _ = ny * ex * ez := by rw [Int.mul_right_comm]
      _ ≤ nx * ey * ez := Int.mul_le_mul_of_nonneg_right h (Int.le_of_lt dz)
      _ = nx * ez * ey := by rw [Int.mul_right_comm]
theorem cf_neg (pol : Int) (P : Nat) (x y : Z) : cf pol P x y < 0 ↔ (¬ Q pol P y x ∨ (Q pol P x y ∧ Q pol P y x ∧ x.id < y.id)) := by
  unfold cf Q orI cmpI
  split <;> (repeat' split) <;> omega
def lt (pol : Int) (P : Nat) (x y : Z) : Bool := decide (cf pol P x y < 0)
theorem lt_iff (pol : Int) (P : Nat) (x y : Z) : lt pol P x y = true ↔ (¬ Q pol P y x ∨ (Q pol P x y ∧ Q pol P y x ∧ x.id < y.id)) := by
  unfold lt; rw [decide_eq_true_iff]; exact cf_neg pol P x y
theorem lt_false (pol : Int) (P : Nat) (x y : Z) : lt pol P x y = false ↔ ¬ (¬ Q pol P y x ∨ (Q pol P x y ∧ Q pol P y x ∧ x.id < y.id)) := by
  rw [← lt_iff]; simp
theorem lt_irrefl (pol : Int) (P : Nat) (x : Z) : lt pol P x x = false := by
  rw [lt_false]; have := Q_total pol P x x; intro h; rcases h with h | h
  · exact h (this.elim id id)
  · omega
theorem lt_trans (pol : Int) (P : Nat) {x y z : Z} (hx : x.ok P) (hy : y.ok P) (hz : z.ok P) (h : lt pol P x y = true) (k : lt pol P y z = true) : lt pol P x z = true := by
  rw [lt_iff] at *
  have a := @Q_trans pol P z y x hz hy hx
  have b := @Q_trans pol P z x y hz hx hy
  have c := @Q_trans pol P y z x hy hz hx
  have d := @Q_trans pol P x y z hx hy hz
  have t1 := Q_total pol P x z
  have t2 := Q_total pol P y z
  have t3 := Q_total pol P x y
  by_cases h1 : Q pol P z x
  · right
    have e1 : x.id < y.id ∧ y.id < z.id ∧ Q pol P x z := by grind
    exact ⟨e1.2.2, h1, by omega⟩
  · exact .inl h1
theorem lt_ntrans (pol : Int) (P : Nat) {x y z : Z} (hx : x.ok P) (hy : y.ok P) (hz : z.ok P) (h : lt pol P x y = false) (k : lt pol P y z = false) : lt pol P x z = false := by
  rw [lt_false] at *
  have a := @Q_trans pol P z y x hz hy hx
  have b := @Q_trans pol P z x y hz hx hy
  have c := @Q_trans pol P x z y hx hz hy
  have d := @Q_trans pol P y x z hy hx hz
  have t1 := Q_total pol P x z
  have t2 := Q_total pol P y z
  have t3 := Q_total pol P x y
  grind
theorem lt_total (pol : Int) (P : Nat) {x y : Z} (h : lt pol P x y = false) (k : lt pol P y x = false) : x.id = y.id := by
  rw [lt_false] at *
  have t3 := Q_total pol P x y
  grind
theorem swo (pol : Int) (P : Nat) : SWO (ltOf fun x y : ZP P => cf pol P x.1 y.1) where
  irrefl x := lt_irrefl pol P x.1
  trans x y z := lt_trans pol P x.2 y.2 z.2
  ntrans x y z := lt_ntrans pol P x.2 y.2 z.2

def ins (pol : Int) (P : Nat) (z : Z) : List Z → List Z
  | [] => [z]
  | y :: l => if lt pol P z y = true then z :: y :: l else y :: ins pol P z l
def isort (pol : Int) (P : Nat) : List Z → List Z
  | [] => []
  | z :: l => ins pol P z (isort pol P l)
theorem ins_perm (pol : Int) (P : Nat) (z : Z) : ∀ l, (ins pol P z l).Perm (z :: l)
  | [] => .refl _
  | y :: l => by
    unfold ins
    split
    · exact .refl _
    · exact ((ins_perm pol P z l).cons y).trans (.swap _ _ _)
theorem isort_perm (pol : Int) (P : Nat) : ∀ l, (isort pol P l).Perm l
  | [] => .refl _
  | z :: l => (ins_perm pol P z _).trans ((isort_perm pol P l).cons z)
theorem ins_sorted (pol : Int) (P : Nat) (z : Z) (hz : z.ok P) : ∀ l, (∀ y ∈ l, y.ok P) → l.Pairwise (fun x y => lt pol P y x = false) → (ins pol P z l).Pairwise (fun x y => lt pol P y x = false)
  | [], _, _ => by simp [ins]
  | y :: l, ho, hp => by
    unfold ins
    obtain ⟨h1, h2⟩ := List.pairwise_cons.1 hp
    have hy := ho y List.mem_cons_self
    split
    · rename_i hlt
      refine List.pairwise_cons.2 ⟨fun u hu => ?_, hp⟩
      have hyz : lt pol P y z = false := by
        cases h : lt pol P y z
        · rfl
        · have := lt_trans pol P hz hy hz hlt h; rw [lt_irrefl] at this; cases this
      rcases List.mem_cons.1 hu with rfl | hu
      · exact hyz
      · exact lt_ntrans pol P (ho u (List.mem_cons_of_mem _ hu)) hy hz (h1 u hu) hyz
    · rename_i hlt
      refine List.pairwise_cons.2 ⟨fun u hu => ?_, ins_sorted pol P z hz l (fun u hu => ho u (List.mem_cons_of_mem _ hu)) h2⟩
      rcases List.mem_cons.1 ((ins_perm pol P z l).mem_iff.1 hu) with rfl | hu
      · simpa using hlt
      · exact h1 u hu
theorem isort_sorted (pol : Int) (P : Nat) : ∀ l, (∀ y ∈ l, y.ok P) → (isort pol P l).Pairwise (fun x y => lt pol P y x = false)
  | [], _ => by simp [isort]
  | z :: l, ho => ins_sorted pol P z (ho z List.mem_cons_self) _ (fun y hy => ho y (List.mem_cons_of_mem _ ((isort_perm pol P l).mem_iff.1 hy))) (isort_sorted pol P l (fun y hy => ho y (List.mem_cons_of_mem _ hy)))
/-- of zones whose ids are apart there is one sorted row. -/
theorem sorted_unique (pol : Int) (P : Nat) : ∀ (a b : List Z), a.Perm b → (a.map Z.id).Nodup → a.Pairwise (fun x y => lt pol P y x = false) → b.Pairwise (fun x y => lt pol P y x = false) → a = b
  | [], b, hp, _, _, _ => (List.nil_perm.1 hp).symm
  | x :: a, [], hp, _, _, _ => by have := hp.length_eq; simp at this
  | x :: a, y :: b, hp, hd, ha, hb => by
    obtain ⟨a1, a2⟩ := List.pairwise_cons.1 ha
    obtain ⟨b1, b2⟩ := List.pairwise_cons.1 hb
    have hxy : x = y := by
      rcases List.mem_cons.1 (hp.mem_iff.1 List.mem_cons_self) with h | h
      · exact h
      · rcases List.mem_cons.1 (hp.mem_iff.2 List.mem_cons_self) with k | k
        · exact k.symm
        · have := lt_total pol P (b1 x h) (a1 y k)
          simp only [List.map_cons, List.nodup_cons, List.mem_map, not_exists, not_and] at hd
          exact absurd this.symm (by have := hd.1 y k; intro e; exact this (e ▸ rfl))
    subst hxy
    rw [sorted_unique pol P a b (List.Perm.cons_inv hp) (List.nodup_cons.1 hd).2 a2 b2]
end Go.Proofs.Ytkcpbglimpaieaa
