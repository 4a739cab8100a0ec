/- The pivot and the broken patterns of slices.Sort at uint32 are the kit's plain functions. -/
import Derived.Test.YtpbjabpakkjomaaDoorT3
import Derived.Sort.LotD5
import Derived.Laws.Bits64
namespace Go.Proofs.YtpbjabpakkjomaaDoor.S
open Go.RowKit Go.Proofs.YtpbjabpakkjomaaDoorW.PrintWords Go.Proofs.YtpbjabpakkjomaaDoorW.PrintLast Go.Proofs.YtpbjabpakkjomaaDoorW.PrintMore
set_option linter.unusedVariables false
set_option linter.unusedSimpArgs false
open Go.Sort (swp ltInt)

theorem ord2_eq (d : Array Int) (a b n : Nat) (hn : n ≤ 1000) : ord2 d.toList a b n = (((Sort.order2 ltInt d a b n).1 : Int), ((Sort.order2 ltInt d a b n).2.1 : Int), ((Sort.order2 ltInt d a b n).2.2 : Int)) := by
  unfold ord2 Sort.order2
  rw [rdA, rdA, w64_succ (by omega)]
  by_cases h : d[b]! < d[a]!
  · rw [if_pos h, if_pos (by simpa [ltInt] using h)]
  · rw [if_neg h, if_neg (by simpa [ltInt] using h)]
theorem order2_le (d : Array Int) (a b n : Nat) : (Sort.order2 ltInt d a b n).2.2 ≤ n + 1 := by unfold Sort.order2; split <;> simp
theorem med3_eq (d : Array Int) (a b c n : Nat) (hn : n ≤ 900) : med3 d.toList a b c n = (((Sort.median ltInt d a b c n).1 : Int), ((Sort.median ltInt d a b c n).2 : Int)) ∧ (Sort.median ltInt d a b c n).2 ≤ n + 3 := by
  unfold med3 Sort.median
  dsimp only
  have l1 := order2_le d a b n
  rw [ord2_eq d a b n (by omega)]
  dsimp only
  generalize Sort.order2 ltInt d a b n = x at *
  have l2 := order2_le d x.2.1 c x.2.2
  rw [ord2_eq d x.2.1 c x.2.2 (by omega)]
  dsimp only
  generalize Sort.order2 ltInt d x.2.1 c x.2.2 = y at *
  have l3 := order2_le d x.1 y.1 y.2.2
  rw [ord2_eq d x.1 y.1 y.2.2 (by omega)]
  exact ⟨rfl, by omega⟩
def hintN : Sort.Hint → Int
  | .unknown => 0
  | .increasing => 1
  | .decreasing => 2
theorem hint_eq (s : Nat) : hintOf (s : Int) = hintN (if s = 0 then Sort.Hint.increasing else if s = 12 then Sort.Hint.decreasing else Sort.Hint.unknown) := by
  unfold hintOf
  by_cases h : s = 0
  · rw [if_pos (by omega), if_pos h]; rfl
  · rw [if_neg (by omega), if_neg h]
    by_cases h2 : s = 12
    · rw [if_pos (by omega), if_pos h2]; rfl
    · rw [if_neg (by omega), if_neg h2]; rfl
theorem pivot_eq (d : Array Int) (a b : Nat) (h : a ≤ b) : pivotOf d.toList a b = (((Sort.choosePivot ltInt d a b).1 : Int), hintN (Sort.choosePivot ltInt d a b).2) := by
  unfold pivotOf Sort.choosePivot
  dsimp only
  have c0 : (b : Int) - (a : Int) = ((b - a : Nat) : Int) := by omega
  rw [c0]
  generalize b - a = n
  have c1 : (a : Int) + (n : Int) / 4 = ((a + n / 4 * 1 : Nat) : Int) := by omega
  have c2 : (a : Int) + (n : Int) / 4 * 2 = ((a + n / 4 * 2 : Nat) : Int) := by omega
  have c3 : (a : Int) + (n : Int) / 4 * 3 = ((a + n / 4 * 3 : Nat) : Int) := by omega
  by_cases h8 : n ≥ 8
  · rw [if_pos (by omega), if_pos h8]
    have adj : ∀ (i s : Nat), 1 ≤ i → s ≤ 800 → med3 d.toList ((i : Int) - 1) i ((i : Int) + 1) s = (((Sort.medianAdjacent ltInt d i s).1 : Int), ((Sort.medianAdjacent ltInt d i s).2 : Int)) ∧ (Sort.medianAdjacent ltInt d i s).2 ≤ s + 3 := fun i s hi hs => by
      have := med3_eq d (i - 1) i (i + 1) s (by omega)
      rw [show ((i - 1 : Nat) : Int) = (i : Int) - 1 by omega, show ((i + 1 : Nat) : Int) = (i : Int) + 1 by omega] at this
      exact this
    by_cases h50 : n ≥ 50
    · rw [if_pos (by omega), if_pos h50, c1, c2, c3]
      obtain ⟨q1, b1⟩ := adj (a + n / 4 * 1) 0 (by omega) (by omega)
      rw [show ((0 : Nat) : Int) = 0 from rfl] at q1
      rw [q1]
      dsimp only
      generalize Sort.medianAdjacent ltInt d (a + n / 4 * 1) 0 = x at *
      obtain ⟨q2, b2⟩ := adj (a + n / 4 * 2) x.2 (by omega) (by omega)
      rw [q2]
      dsimp only
      generalize Sort.medianAdjacent ltInt d (a + n / 4 * 2) x.2 = y at *
      obtain ⟨q3, b3⟩ := adj (a + n / 4 * 3) y.2 (by omega) (by omega)
      rw [q3]
      dsimp only
      generalize Sort.medianAdjacent ltInt d (a + n / 4 * 3) y.2 = z at *
      obtain ⟨q4, _⟩ := med3_eq d x.1 y.1 z.1 z.2 (by omega)
      rw [q4, hint_eq]
    · rw [if_neg (by omega), if_neg h50, c1, c2, c3]
      obtain ⟨q1, _⟩ := med3_eq d (a + n / 4 * 1) (a + n / 4 * 2) (a + n / 4 * 3) 0 (by omega)
      rw [show ((0 : Nat) : Int) = 0 from rfl] at q1
      rw [q1, hint_eq]
  · rw [if_neg (by omega), if_neg h8, c2]
    rfl

theorem next_nat (X : Nat) (hX : X < 18446744073709551616) : xc (xb (xa (X : Int))) = (Sort.xorNextN X : Int) := by
  have l1 : X ^^^ (X * 8192 % 18446744073709551616) < 18446744073709551616 := Nat.xor_lt_two_pow (n := 64) (by omega) (by omega)
  have k1 : xa (X : Int) = ((X ^^^ (X * 8192 % 18446744073709551616) : Nat) : Int) := by
    unfold xa
    rw [IntKind.wrap_u64, show ((X : Int) * 8192 % 18446744073709551616) = ((X * 8192 % 18446744073709551616 : Nat) : Int) by omega, bits_xor_u64_nat _ _ hX (by omega)]
  unfold Sort.xorNextN
  dsimp only
  rw [k1]
  generalize X ^^^ (X * 8192 % 18446744073709551616) = A at *
  have l2 : A ^^^ (A / 128) < 18446744073709551616 := Nat.xor_lt_two_pow (n := 64) (by omega) (by omega)
  have k2 : xb (A : Int) = ((A ^^^ (A / 128) : Nat) : Int) := by
    unfold xb
    rw [show ((A : Int) / 128) = ((A / 128 : Nat) : Int) by omega, bits_xor_u64_nat _ _ l1 (by omega)]
  rw [k2]
  generalize A ^^^ (A / 128) = B at *
  unfold xc
  rw [IntKind.wrap_u64, show ((B : Int) * 131072 % 18446744073709551616) = ((B * 131072 % 18446744073709551616 : Nat) : Int) by omega, bits_xor_u64_nat _ _ l2 (by omega)]
theorem pow2_nat : ∀ n : Nat, n < 256 → pow2Of (n : Int) = ((1 <<< Sort.bitsLen n : Nat) : Int) ∧ (8 ≤ n → 1 <<< Sort.bitsLen n ≤ 2 * n) ∧ 1 ≤ 1 <<< Sort.bitsLen n ∧ 1 <<< Sort.bitsLen n ≤ 512 := by decide +kernel
theorem wrap_u64_self (n : Int) (h0 : 0 ≤ n) (h1 : n < 2 ^ 64) : IntKind.u64.wrap n = n := by rw [IntKind.wrap_u64]; omega
theorem bp_step (k a n M x : Nat) (u : UInt64) (d : Array Int) (hn : 8 ≤ n) (hM : M ≤ 2 * n) (hM1 : 1 ≤ M) (hM2 : M ≤ 600) (hx : x ≤ a + n / 4 * 2 + 1) (hx2 : x < d.size) (han : a + n ≤ d.size) :
    bpLoop (k + 1) a n M d.toList (u.toNat : Int) x = bpLoop k a n M (Sort.breakStep a n M (u, d) x).2.toList ((Sort.breakStep a n M (u, d) x).1.toNat : Int) ((x + 1 : Nat) : Int) := by
  unfold Sort.breakStep
  dsimp only
  have hu : (Sort.xorNext u).toNat < 18446744073709551616 := (Sort.xorNext u).toNat_lt
  have e1 : xc (xb (xa (u.toNat : Int))) = ((Sort.xorNext u).toNat : Int) := by rw [next_nat _ u.toNat_lt, Sort.xorNext_toNat]
  rw [bpLoop, e1]
  generalize (Sort.xorNext u).toNat = R at *
  have e2 : bits .and .u64 (R : Int) ((M : Int) - 1) = ((R &&& (M - 1) : Nat) : Int) := by
    rw [show (M : Int) - 1 = ((M - 1 : Nat) : Int) by omega]
    exact (bits_nat .u64 64 (by decide) wrap_u64_self R (M - 1) hu (by omega)).1
  have hle : R &&& (M - 1) ≤ M - 1 := Nat.and_le_right
  unfold otherOf
  rw [e2]
  generalize R &&& (M - 1) = o at *
  have hl := lenA d
  by_cases ho : o ≥ n
  · have oth : (if (o : Int) ≥ (n : Int) then (o : Int) - (n : Int) else (o : Int)) = ((o - n : Nat) : Int) := by rw [if_pos (by omega)]; omega
    rw [oth, if_pos (by omega), if_pos ⟨by omega, by omega, by omega, by omega, by omega, by omega⟩, if_pos ho]
    have e3 : (a : Int) + ((o - n : Nat) : Int) = ((a + (o - n) : Nat) : Int) := by omega
    rw [e3, swapAt, rdA, rdA, Int.toNat_natCast, Int.toNat_natCast, swpA]
    rfl
  · have oth : (if (o : Int) ≥ (n : Int) then (o : Int) - (n : Int) else (o : Int)) = (o : Int) := by rw [if_neg (by omega)]
    rw [oth, if_pos (by omega), if_pos ⟨by omega, by omega, by omega, by omega, by omega, by omega⟩, if_neg ho]
    have e3 : (a : Int) + (o : Int) = ((a + o : Nat) : Int) := by omega
    rw [e3, swapAt, rdA, rdA, Int.toNat_natCast, Int.toNat_natCast, swpA]
    rfl
theorem breakStep_size (a n M x : Nat) (st : UInt64 × Array Int) : (Sort.breakStep a n M st x).2.size = st.2.size := by unfold Sort.breakStep; exact swp_size _ _ _
theorem break_eq (d : Array Int) (a b : Nat) (hab : a ≤ b) (hb : b ≤ d.size) (hd : d.size < 256) : slices_breakPatternsOrdered_uint32.f d.toList a b = some (Sort.breakPatterns d a b).toList := by
  have c0 : (b : Int) - (a : Int) = ((b - a : Nat) : Int) := by omega
  unfold slices_breakPatternsOrdered_uint32.f Sort.breakPatterns
  dsimp only
  rw [c0]
  obtain ⟨p1, p2, p3, p4⟩ := pow2_nat (b - a) (by omega)
  have han : a + (b - a) ≤ d.size := by omega
  rw [p1]
  generalize hn : b - a = n at *
  generalize 1 <<< Sort.bitsLen n = M at *
  rw [if_pos ⟨by omega, by omega, by rw [lenA]; omega, by simpa using hd, by omega, by omega⟩]
  by_cases h8 : n ≥ 8
  · rw [if_pos (by omega), if_pos h8]
    have hM := p2 h8
    have c1 : (a : Int) + (n : Int) / 4 * 2 - 1 = ((a + n / 4 * 2 - 1 : Nat) : Int) := by omega
    have c2 : (n : Int) = ((UInt64.ofNat n).toNat : Int) := by rw [UInt64.toNat_ofNat_of_lt' (by show n < 18446744073709551616; omega)]
    rw [c1]
    have s1 := bp_step 3 a n M (a + n / 4 * 2 - 1) (UInt64.ofNat n) d h8 hM p3 (by omega) (by omega) (by omega) han
    rw [← c2] at s1
    rw [s1]
    generalize hs1 : Sort.breakStep a n M (UInt64.ofNat n, d) (a + n / 4 * 2 - 1) = t1 at *
    have z1 : t1.2.size = d.size := by rw [← hs1, breakStep_size]
    have s2 := bp_step 2 a n M (a + n / 4 * 2 - 1 + 1) t1.1 t1.2 h8 hM p3 (by omega) (by omega) (by omega) (by omega)
    rw [s2]
    generalize hs2 : Sort.breakStep a n M (t1.1, t1.2) (a + n / 4 * 2 - 1 + 1) = t2 at *
    have z2 : t2.2.size = d.size := by rw [← hs2, breakStep_size]; exact z1
    have s3 := bp_step 1 a n M (a + n / 4 * 2 - 1 + 2) t2.1 t2.2 h8 hM p3 (by omega) (by omega) (by omega) (by omega)
    rw [show a + n / 4 * 2 - 1 + 1 + 1 = a + n / 4 * 2 - 1 + 2 by omega, s3, bpLoop, if_neg (by omega)]
  · rw [if_neg (by omega), if_neg h8]
end Go.Proofs.YtpbjabpakkjomaaDoor.S
