/- slices.Sort at uint32, printed, sorts: it comes to the kit's plain function. -/
import Derived.Test.YtpbjabpakkjomaaDoorT4
namespace Go.Proofs.YtpbjabpakkjomaaDoor.S
open Go.RowKit Go.Proofs.YtpbjabpakkjomaaDoorW.PrintWords Go.Proofs.YtpbjabpakkjomaaDoorW.PrintLast Go.Proofs.YtpbjabpakkjomaaDoorW.PrintMore
set_option linter.unusedVariables false
set_option linter.unusedSimpArgs false
open Go.Sort (swp ltInt)

theorem scanUp_le (p : Int → Bool) (d : Array Int) (j b : Nat) (hj : j < b) (i : Nat) (hi : i ≤ b) : Sort.scanUp p d j i ≤ b := by
  obtain ⟨_, h⟩ := scanUp_range p d j _ i rfl
  by_cases c : i ≤ j + 1
  · have := h c; omega
  · unfold Sort.scanUp; rw [if_neg (by simp; omega)]; exact hi
theorem scanDown_ge (p : Int → Bool) (d : Array Int) (a i : Nat) (hi : a < i) : ∀ (j : Nat), a ≤ j → a ≤ Sort.scanDown p d i j
  | 0, h => by unfold Sort.scanDown; exact h
  | j + 1, h => by
    unfold Sort.scanDown
    by_cases c : i ≤ j + 1
    · split
      · exact scanDown_ge p d a i hi j (by omega)
      · exact h
    · rw [if_neg (by simp [c])]; exact h
theorem peLoop_range (a b : Nat) : ∀ (n i j : Nat) (d : Array Int), j + 1 - i ≤ n → a < i → i ≤ b → j < b → a < (Sort.partEqLoop ltInt a i j d).1 ∧ (Sort.partEqLoop ltInt a i j d).1 ≤ b ∧ (Sort.partEqLoop ltInt a i j d).2.size = d.size := by
  intro n
  induction n with
  | zero =>
    intro i j d hn h1 h2 h3
    unfold Sort.partEqLoop
    dsimp only
    obtain ⟨u1, _⟩ := scanUp_range (fun x => !ltInt d[a]! x) d j _ i rfl
    have u2 := scanUp_le (fun x => !ltInt d[a]! x) d j b h3 i h2
    generalize Sort.scanUp (fun x => !ltInt d[a]! x) d j i = i2 at *
    have d1 := scanDown_range (fun x => ltInt d[a]! x) d i2 j
    generalize Sort.scanDown (fun x => ltInt d[a]! x) d i2 j = j2 at *
    split
    · exact ⟨by omega, by omega, rfl⟩
    · omega
  | succ n ih =>
    intro i j d hn h1 h2 h3
    unfold Sort.partEqLoop
    dsimp only
    obtain ⟨u1, _⟩ := scanUp_range (fun x => !ltInt d[a]! x) d j _ i rfl
    have u2 := scanUp_le (fun x => !ltInt d[a]! x) d j b h3 i h2
    generalize Sort.scanUp (fun x => !ltInt d[a]! x) d j i = i2 at *
    have d1 := scanDown_range (fun x => ltInt d[a]! x) d i2 j
    generalize Sort.scanDown (fun x => ltInt d[a]! x) d i2 j = j2 at *
    split
    · exact ⟨by omega, by omega, rfl⟩
    · rw [dif_pos (by omega)]
      have := ih (i2 + 1) (j2 - 1) (swp d i2 j2) (by omega) (by omega) (by omega) (by omega)
      rw [swp_size] at this
      exact this
theorem ppLoop_range (a b : Nat) : ∀ (n i j : Nat) (d : Array Int), j + 1 - i ≤ n → a < i → a ≤ j → j < b → a ≤ (Sort.partLoop ltInt a i j d).1 ∧ (Sort.partLoop ltInt a i j d).1 < b ∧ (Sort.partLoop ltInt a i j d).2.size = d.size := by
  intro n
  induction n with
  | zero =>
    intro i j d hn h1 h2 h3
    unfold Sort.partLoop
    dsimp only
    obtain ⟨u1, _⟩ := scanUp_range (fun x => ltInt x d[a]!) d j _ i rfl
    generalize Sort.scanUp (fun x => ltInt x d[a]!) d j i = i2 at *
    have d1 := scanDown_range (fun x => !ltInt x d[a]!) d i2 j
    have d2 := scanDown_ge (fun x => !ltInt x d[a]!) d a i2 (by omega) j h2
    generalize Sort.scanDown (fun x => !ltInt x d[a]!) d i2 j = j2 at *
    split
    · exact ⟨by omega, by omega, rfl⟩
    · omega
  | succ n ih =>
    intro i j d hn h1 h2 h3
    unfold Sort.partLoop
    dsimp only
    obtain ⟨u1, _⟩ := scanUp_range (fun x => ltInt x d[a]!) d j _ i rfl
    generalize Sort.scanUp (fun x => ltInt x d[a]!) d j i = i2 at *
    have d1 := scanDown_range (fun x => !ltInt x d[a]!) d i2 j
    have d2 := scanDown_ge (fun x => !ltInt x d[a]!) d a i2 (by omega) j h2
    generalize Sort.scanDown (fun x => !ltInt x d[a]!) d i2 j = j2 at *
    split
    · exact ⟨by omega, by omega, rfl⟩
    · rw [dif_pos (by omega)]
      have := ih (i2 + 1) (j2 - 1) (swp d i2 j2) (by omega) (by omega) (by omega) (by omega)
      rw [swp_size] at this
      exact this
theorem pe_range (a b pivot : Nat) (d : Array Int) (ha : a ≤ pivot) (hp : pivot < b) : a < (Sort.partitionEqual ltInt d a b pivot).1 ∧ (Sort.partitionEqual ltInt d a b pivot).1 ≤ b ∧ (Sort.partitionEqual ltInt d a b pivot).2.size = d.size := by
  have := peLoop_range a b _ (a + 1) (b - 1) (swp d a pivot) (Nat.le_refl _) (by omega) (by omega) (by omega)
  rw [swp_size] at this
  exact this
theorem pp_range (a b pivot : Nat) (d : Array Int) (ha : a ≤ pivot) (hp : pivot < b) : a ≤ (Sort.partition ltInt d a b pivot).1 ∧ (Sort.partition ltInt d a b pivot).1 < b ∧ (Sort.partition ltInt d a b pivot).2.2.size = d.size := by
  unfold Sort.partition
  dsimp only
  have hs := swp_size d a pivot
  generalize swp d a pivot = e at *
  obtain ⟨u1, _⟩ := scanUp_range (fun x => ltInt x e[a]!) e (b - 1) _ (a + 1) rfl
  generalize Sort.scanUp (fun x => ltInt x e[a]!) e (b - 1) (a + 1) = i2 at *
  have d1 := scanDown_range (fun x => !ltInt x e[a]!) e i2 (b - 1)
  have d2 := scanDown_ge (fun x => !ltInt x e[a]!) e a i2 (by omega) (b - 1) (by omega)
  generalize Sort.scanDown (fun x => !ltInt x e[a]!) e i2 (b - 1) = j2 at *
  split
  · exact ⟨by omega, by omega, by rw [swp_size]; exact hs⟩
  · obtain ⟨r1, r2, r3⟩ := ppLoop_range a b _ (i2 + 1) (j2 - 1) (swp e i2 j2) (Nat.le_refl _) (by omega) (by omega) (by omega)
    rw [swp_size] at r3
    exact ⟨r1, r2, by rw [swp_size]; omega⟩
theorem pis_size (a b : Nat) : ∀ (s i : Nat) (d : Array Int), (Sort.partialIns ltInt a b s i d).1.size = d.size
  | 0, _, _ => rfl
  | s + 1, i, d => by
    unfold Sort.partialIns
    dsimp only
    split
    · rfl
    · split
      · rfl
      · rw [pis_size a b s]
        have e1 : ∀ e : Array Int, (if b - Sort.scanSorted ltInt d b i ≥ 2 then Sort.shiftUp ltInt b (Sort.scanSorted ltInt d b i + 1) e else e).size = e.size := fun e => by
          split
          · exact shiftUp_size b _ _ _ rfl
          · rfl
        rw [e1]
        split
        · rw [shiftDown_size, swp_size]
        · rw [swp_size]
theorem rev_size : ∀ (n i j : Nat) (d : Array Int), j - i ≤ n → (Sort.reverseLoop i j d).size = d.size
  | 0, i, j, d, hn => by unfold Sort.reverseLoop; rw [if_neg (by omega)]
  | n + 1, i, j, d, hn => by
    unfold Sort.reverseLoop
    split
    · rw [rev_size n _ _ _ (by omega), swp_size]
    · rfl
theorem break_size (d : Array Int) (a b : Nat) : (Sort.breakPatterns d a b).size = d.size := by
  unfold Sort.breakPatterns
  dsimp only
  split
  · rw [breakStep_size, breakStep_size, breakStep_size]
  · rfl
def Goal (d : Array Int) (a b limit : Nat) (wb wp : Bool) : Prop :=
  (Sort.pdq ltInt d a b limit wb wp).size = d.size ∧ Ev (fun k => slices_pdqsortOrdered_uint32.l0 k d.toList a b limit wb wp) (Sort.pdq ltInt d a b limit wb wp).toList
def rest (a b limit : Nat) (wb wp : Bool) (pivot : Nat) (d3 : Array Int) : Array Int :=
  if a > 0 && !ltInt d3[a - 1]! d3[pivot]! then
    match Sort.partitionEqual ltInt d3 a b pivot with
    | (mid, d4) => if _h : a < mid ∧ mid ≤ b then Sort.pdq ltInt d4 mid b limit wb wp else d4
  else
    match Sort.partition ltInt d3 a b pivot with
    | (mid, alreadyPartitioned, d4) =>
      if _h : a ≤ mid ∧ mid < b then
        if mid - a < b - mid then
          Sort.pdq ltInt (Sort.pdq ltInt d4 a mid limit true true) (mid + 1) b limit (decide (mid - a ≥ (b - a) / 8)) alreadyPartitioned
        else
          Sort.pdq ltInt (Sort.pdq ltInt d4 (mid + 1) b limit true true) a mid limit (decide (b - mid ≥ (b - a) / 8)) alreadyPartitioned
      else d4
theorem wide8 (n : Nat) (h : n ≤ 1000000) : wrap64 (Int.tdiv (n : Int) 8) = ((n / 8 : Nat) : Int) := by rw [Int.tdiv_eq_ediv_of_nonneg (by omega)]; exact w64N (by omega) (by omega)
set_option maxHeartbeats 1000000 in
theorem pdq_rest (n a b limit pivot : Nat) (wb wp : Bool) (d : Array Int) (hn : b - a ≤ n + 1) (ha : a ≤ pivot) (hp : pivot < b) (h0 : b ≤ d.size) (h1 : d.size < 256)
    (ih : ∀ (a b : Nat) (wb wp : Bool) (d : Array Int), b - a ≤ n → a ≤ b → b ≤ d.size → d.size < 256 → Goal d a b limit wb wp) :
    (rest a b limit wb wp pivot d).size = d.size ∧ Ev (fun k => slices_pdqsortOrdered_uint32.j4 k d.toList a b limit wb wp ((b - a : Nat) : Int) pivot) (rest a b limit wb wp pivot d).toList := by
  have two : ∀ c : Bool, c = (decide (a > 0) && !ltInt d[a - 1]! d[pivot]!) → (rest a b limit wb wp pivot d).size = d.size ∧ Ev (fun k => slices_pdqsortOrdered_uint32.j5 k d.toList a b limit wb wp ((b - a : Nat) : Int) pivot c) (rest a b limit wb wp pivot d).toList := by
    intro c hc
    unfold rest
    rw [← hc]
    cases c with
    | true =>
      rw [if_pos rfl]
      obtain ⟨r1, r2, r3⟩ := pe_range a b pivot d ha hp
      have e := pe_ev a b pivot d ha hp h0 (by omega)
      generalize Sort.partitionEqual ltInt d a b pivot = q at *
      obtain ⟨mid, d4⟩ := q
      dsimp only at *
      rw [dif_pos ⟨r1, r2⟩]
      obtain ⟨s1, s2⟩ := ih mid b wb wp d4 (by omega) (by omega) (by omega) (by omega)
      refine ⟨by omega, Ev.step (fun k => by rewrite [slices_pdqsortOrdered_uint32.j5, if_pos rfl]; rfl) (Ev.bind (f := fun k t => slices_pdqsortOrdered_uint32.l0 k t.2 t.1 b limit wb wp) e s2)⟩
    | false =>
      rw [if_neg (by simp)]
      obtain ⟨r1, r2, r3⟩ := pp_range a b pivot d ha hp
      have e := pp_ev a b pivot d ha hp h0 (by omega)
      generalize Sort.partition ltInt d a b pivot = q at *
      obtain ⟨mid, ap, d4⟩ := q
      dsimp only at *
      rw [dif_pos ⟨r1, r2⟩]
      by_cases hs : mid - a < b - mid
      · rw [if_pos hs]
        obtain ⟨s1, s2⟩ := ih a mid true true d4 (by omega) (by omega) (by omega) (by omega)
        have s3 : Ev (fun k => slices_pdqsortOrdered_uint32.f k d4.toList a mid limit) (Sort.pdq ltInt d4 a mid limit true true).toList := Ev.step (fun k => by rewrite [slices_pdqsortOrdered_uint32.f]; rfl) s2
        obtain ⟨s4, s5⟩ := ih (mid + 1) b (decide (mid - a ≥ (b - a) / 8)) ap (Sort.pdq ltInt d4 a mid limit true true) (by omega) (by omega) (by omega) (by omega)
        refine ⟨by omega, Ev.step (fun k => by rewrite [slices_pdqsortOrdered_uint32.j5, if_neg (by simp)]; rfl) (Ev.bind (f := fun k t => if (wrap64 (t.1 - a)) < (wrap64 (b - t.1)) then ((slices_pdqsortOrdered_uint32.f k t.2.2 a t.1 limit).bind fun t232 => (slices_pdqsortOrdered_uint32.l0 k t232 (wrap64 (t.1 + 1)) b limit (decide ((wrap64 (t.1 - a)) ≥ (wrap64 (Int.tdiv ((b - a : Nat) : Int) 8)))) t.2.1)) else ((slices_pdqsortOrdered_uint32.f k t.2.2 (wrap64 (t.1 + 1)) b limit).bind fun t233 => (slices_pdqsortOrdered_uint32.l0 k t233 a t.1 limit (decide ((wrap64 (b - t.1)) ≥ (wrap64 (Int.tdiv ((b - a : Nat) : Int) 8)))) t.2.1))) e ?_)⟩
        dsimp only
        refine Ev.congr (fun k => by rewrite [w64_sub mid a r1 (by omega), w64_sub b mid (by omega) (by omega), if_pos (by omega), w64_succ (by omega), wide8 _ (by omega)]; rfl) (Ev.bind (f := fun k t => slices_pdqsortOrdered_uint32.l0 k t ((mid + 1 : Nat) : Int) b limit (decide (((mid - a : Nat) : Int) ≥ (((b - a) / 8 : Nat) : Int))) ap) s3 ?_)
        have hd : decide (((mid - a : Nat) : Int) ≥ (((b - a) / 8 : Nat) : Int)) = decide (mid - a ≥ (b - a) / 8) := by apply decide_eq_decide.2; omega
        rw [hd]
        exact s5
      · rw [if_neg hs]
        obtain ⟨s1, s2⟩ := ih (mid + 1) b true true d4 (by omega) (by omega) (by omega) (by omega)
        have s3 : Ev (fun k => slices_pdqsortOrdered_uint32.f k d4.toList ((mid + 1 : Nat) : Int) b limit) (Sort.pdq ltInt d4 (mid + 1) b limit true true).toList := Ev.step (fun k => by rewrite [slices_pdqsortOrdered_uint32.f]; rfl) s2
        obtain ⟨s4, s5⟩ := ih a mid (decide (b - mid ≥ (b - a) / 8)) ap (Sort.pdq ltInt d4 (mid + 1) b limit true true) (by omega) (by omega) (by omega) (by omega)
        refine ⟨by omega, Ev.step (fun k => by rewrite [slices_pdqsortOrdered_uint32.j5, if_neg (by simp)]; rfl) (Ev.bind (f := fun k t => if (wrap64 (t.1 - a)) < (wrap64 (b - t.1)) then ((slices_pdqsortOrdered_uint32.f k t.2.2 a t.1 limit).bind fun t232 => (slices_pdqsortOrdered_uint32.l0 k t232 (wrap64 (t.1 + 1)) b limit (decide ((wrap64 (t.1 - a)) ≥ (wrap64 (Int.tdiv ((b - a : Nat) : Int) 8)))) t.2.1)) else ((slices_pdqsortOrdered_uint32.f k t.2.2 (wrap64 (t.1 + 1)) b limit).bind fun t233 => (slices_pdqsortOrdered_uint32.l0 k t233 a t.1 limit (decide ((wrap64 (b - t.1)) ≥ (wrap64 (Int.tdiv ((b - a : Nat) : Int) 8)))) t.2.1))) e ?_)⟩
        dsimp only
        refine Ev.congr (fun k => by rewrite [w64_sub mid a r1 (by omega), w64_sub b mid (by omega) (by omega), if_neg (by omega), w64_succ (by omega), wide8 _ (by omega)]; rfl) (Ev.bind (f := fun k t => slices_pdqsortOrdered_uint32.l0 k t a mid limit (decide (((b - mid : Nat) : Int) ≥ (((b - a) / 8 : Nat) : Int))) ap) s3 ?_)
        have hd : decide (((b - mid : Nat) : Int) ≥ (((b - a) / 8 : Nat) : Int)) = decide (b - mid ≥ (b - a) / 8) := by apply decide_eq_decide.2; omega
        rw [hd]
        exact s5
  by_cases h : a > 0
  · obtain ⟨s1, s2⟩ := two (!ltInt d[a - 1]! d[pivot]!) (by simp [h])
    refine ⟨s1, Ev.step (fun k => ?_) s2⟩
    rewrite [slices_pdqsortOrdered_uint32.j4, if_pos (by omega), w64_dec a h (by omega), if_pos (by omega), if_pos (by rw [lenA]; omega), if_pos (by omega), if_pos (by rw [lenA]; omega), less_f, rdA, rdA, Option.bind_some]
    rfl
  · obtain ⟨s1, s2⟩ := two false (by simp [h])
    refine ⟨s1, Ev.step (fun k => ?_) s2⟩
    rewrite [slices_pdqsortOrdered_uint32.j4, if_neg (by omega)]
    rfl

def after (a b limit : Nat) (wb wp : Bool) (pivot : Nat) (e : Array Int) (c : Bool) : Array Int :=
  let pi := if c then Sort.partialInsertionSort ltInt e a b else (e, false)
  if pi.2 then pi.1 else rest a b limit wb wp pivot pi.1
def tail (a b limit : Nat) (wb wp : Bool) (d1 : Array Int) : Array Int :=
  let c := Sort.choosePivot ltInt d1 a b
  let d2 := if c.2 = .decreasing then Sort.reverseRange d1 a b else d1
  let pivot := if c.2 = .decreasing then (b - 1) - (c.1 - a) else c.1
  let hint := if c.2 = .decreasing then Sort.Hint.increasing else c.2
  after a b limit wb wp pivot d2 (wb && wp && decide (hint = .increasing))
theorem pdq_tail (a b limit : Nat) (wb wp : Bool) (d : Array Int) (h1 : ¬ b - a ≤ 12) (h2 : ¬ limit = 0) :
    Sort.pdq ltInt d a b limit wb wp = if wb = true then tail a b limit wb wp d else tail a b (limit - 1) wb wp (Sort.breakPatterns d a b) := by
  rw [Sort.pdq, if_neg h1, if_neg h2]
  cases wb <;> rfl
set_option maxHeartbeats 1000000 in
theorem after_ev (n a b limit pivot : Nat) (wb wp : Bool) (e : Array Int) (hn : b - a ≤ n + 1) (hab : a < b) (p1 : a ≤ pivot) (p2 : pivot < b) (h0 : b ≤ e.size) (h1 : e.size < 256)
    (ih : ∀ (a b : Nat) (wb wp : Bool) (d : Array Int), b - a ≤ n → a ≤ b → b ≤ d.size → d.size < 256 → Goal d a b limit wb wp) :
    ∀ c : Bool, (after a b limit wb wp pivot e c).size = e.size ∧ Ev (fun k => slices_pdqsortOrdered_uint32.j3 k e.toList a b limit wb wp ((b - a : Nat) : Int) pivot c) (after a b limit wb wp pivot e c).toList := by
  intro c
  unfold after
  dsimp only
  cases c with
  | false =>
    rw [if_neg (by simp)]
    try dsimp only
    rw [if_neg (by simp)]
    obtain ⟨s1, s2⟩ := pdq_rest n a b limit pivot wb wp e hn p1 p2 h0 h1 ih
    exact ⟨s1, Ev.step (fun k => by rewrite [slices_pdqsortOrdered_uint32.j3, if_neg (by simp)]; rfl) s2⟩
  | true =>
    rw [if_pos rfl]
    have q := pis_ev a b e hab h0 (by omega)
    have z : (Sort.partialInsertionSort ltInt e a b).1.size = e.size := pis_size a b 5 (a + 1) e
    generalize Sort.partialInsertionSort ltInt e a b = pi at *
    obtain ⟨e2, b2⟩ := pi
    dsimp only at *
    cases b2 with
    | true =>
      rw [if_pos rfl]
      exact ⟨by omega, Ev.step (fun k => by rewrite [slices_pdqsortOrdered_uint32.j3, if_pos rfl]; rfl) (Ev.bind (f := fun k t => if t.1 = true then (some t.2) else (slices_pdqsortOrdered_uint32.j4 k t.2 a b limit wb wp ((b - a : Nat) : Int) pivot)) q (Ev.congr (fun k => by rw [if_pos rfl]) (Ev.now _)))⟩
    | false =>
      rw [if_neg (by simp)]
      obtain ⟨s1, s2⟩ := pdq_rest n a b limit pivot wb wp e2 hn p1 p2 (by omega) (by omega) ih
      exact ⟨by omega, Ev.step (fun k => by rewrite [slices_pdqsortOrdered_uint32.j3, if_pos rfl]; rfl) (Ev.bind (f := fun k t => if t.1 = true then (some t.2) else (slices_pdqsortOrdered_uint32.j4 k t.2 a b limit wb wp ((b - a : Nat) : Int) pivot)) q (Ev.congr (fun k => by rewrite [if_neg (by simp)]; rfl) s2))⟩
set_option maxHeartbeats 1000000 in
theorem tail_ev (n a b limit : Nat) (wb wp : Bool) (d : Array Int) (hn : b - a ≤ n + 1) (hab : a < b) (h0 : b ≤ d.size) (h1 : d.size < 256)
    (ih : ∀ (a b : Nat) (wb wp : Bool) (d : Array Int), b - a ≤ n → a ≤ b → b ≤ d.size → d.size < 256 → Goal d a b limit wb wp) :
    (tail a b limit wb wp d).size = d.size ∧ Ev (fun k => slices_pdqsortOrdered_uint32.j1 k d.toList a b limit wb wp ((b - a : Nat) : Int)) (tail a b limit wb wp d).toList := by
  have fin : ∀ (e : Array Int) (pivot : Nat) (hint : Sort.Hint), e.size = d.size → a ≤ pivot → pivot < b →
      ((after a b limit wb wp pivot e (wb && wp && decide (hint = .increasing))).size = d.size ∧
      Ev (fun k => slices_pdqsortOrdered_uint32.j2 k e.toList a b limit wb wp ((b - a : Nat) : Int) pivot (hintN hint)) (after a b limit wb wp pivot e (wb && wp && decide (hint = .increasing))).toList) := fun e pivot hint he p1 p2 => by
    have key := after_ev n a b limit pivot wb wp e hn hab p1 p2 (by omega) (by omega) ih
    rw [he] at key
    cases wb with
    | false =>
      obtain ⟨s1, s2⟩ := key false
      exact ⟨s1, Ev.step (fun k => by rewrite [slices_pdqsortOrdered_uint32.j2, if_neg (by simp)]; rfl) s2⟩
    | true =>
      cases wp with
      | false =>
        obtain ⟨s1, s2⟩ := key false
        exact ⟨s1, Ev.step (fun k => by rewrite [slices_pdqsortOrdered_uint32.j2, if_pos rfl, if_neg (by simp)]; rfl) s2⟩
      | true =>
        cases hint with
        | increasing =>
          obtain ⟨s1, s2⟩ := key true
          exact ⟨s1, Ev.step (fun k => by rewrite [slices_pdqsortOrdered_uint32.j2, if_pos rfl, if_pos rfl]; rfl) s2⟩
        | unknown =>
          obtain ⟨s1, s2⟩ := key false
          exact ⟨s1, Ev.step (fun k => by rewrite [slices_pdqsortOrdered_uint32.j2, if_pos rfl, if_pos rfl]; rfl) s2⟩
        | decreasing =>
          obtain ⟨s1, s2⟩ := key false
          exact ⟨s1, Ev.step (fun k => by rewrite [slices_pdqsortOrdered_uint32.j2, if_pos rfl, if_pos rfl]; rfl) s2⟩
  unfold tail
  dsimp only
  obtain ⟨p1, p2⟩ := Sort.choosePivot_holds ltInt d a b hab
  have hpv := pivot_eq d a b (by omega)
  have hcp : slices_choosePivotOrdered_uint32.f d.toList a b = some (pivotOf d.toList a b) := if_pos ⟨by omega, by omega, by rw [lenA]; omega, by simp; omega⟩
  rw [hpv] at hcp
  generalize Sort.choosePivot ltInt d a b = c at *
  obtain ⟨pv, hint⟩ := c
  dsimp only at *
  cases hint with
  | decreasing =>
    rw [if_pos rfl, if_pos rfl, if_pos rfl]
    have hr := rev_ev a b d h0 (by omega) (by omega)
    have hz : (Sort.reverseRange d a b).size = d.size := rev_size _ a (b - 1) d (Nat.le_refl _)
    obtain ⟨s1, s2⟩ := fin (Sort.reverseRange d a b) ((b - 1) - (pv - a)) .increasing hz (by omega) (by omega)
    refine ⟨s1, Ev.step (fun k => ?_) (Ev.bind (f := fun k t => slices_pdqsortOrdered_uint32.j2 k t a b limit wb wp ((b - a : Nat) : Int) (((b - 1) - (pv - a) : Nat) : Int) 1) hr s2)⟩
    rewrite [slices_pdqsortOrdered_uint32.j1, hcp, Option.bind_some, if_pos (by simp [hintN])]
    dsimp only
    rewrite [w64_dec b (by omega) (by omega), w64_sub pv a p1 (by omega), w64_sub (b - 1) (pv - a) (by omega) (by omega)]
    rfl
  | unknown =>
    rw [if_neg (by simp), if_neg (by simp), if_neg (by simp)]
    obtain ⟨s1, s2⟩ := fin d pv .unknown rfl p1 p2
    refine ⟨s1, Ev.step (fun k => ?_) s2⟩
    rewrite [slices_pdqsortOrdered_uint32.j1, hcp, Option.bind_some, if_neg (by simp [hintN])]
    rfl
  | increasing =>
    rw [if_neg (by simp), if_neg (by simp), if_neg (by simp)]
    obtain ⟨s1, s2⟩ := fin d pv .increasing rfl p1 p2
    refine ⟨s1, Ev.step (fun k => ?_) s2⟩
    rewrite [slices_pdqsortOrdered_uint32.j1, hcp, Option.bind_some, if_neg (by simp [hintN])]
    rfl
theorem pdq_ev : ∀ (n a b limit : Nat) (wb wp : Bool) (d : Array Int), b - a ≤ n → a ≤ b → b ≤ d.size → d.size < 256 → limit ≤ 1000 → Goal d a b limit wb wp
  | n, a, b, limit, wb, wp, d, hn, hab, h0, h1, hl => by
    unfold Goal
    by_cases h12 : b - a ≤ 12
    · rw [Sort.pdq, if_pos h12]
      refine ⟨ins_size a b _ (a + 1) d rfl, Ev.step (fun k => ?_) (Ev.bind (f := fun _ t => some t) (ins_ev a b d h0 (by omega) (by omega)) (Ev.now _))⟩
      rewrite [slices_pdqsortOrdered_uint32.l0, w64_sub b a hab (by omega), if_pos (by omega)]
      rfl
    · by_cases hz : limit = 0
      · rw [Sort.pdq, if_neg h12, if_pos hz]
        refine ⟨by unfold Sort.heapSort; rw [heapPop_size, heapBuild_size], Ev.step (fun k => ?_) (Ev.bind (f := fun _ t => some t) (heap_ev a b d hab h0 (by omega)) (Ev.now _))⟩
        rewrite [slices_pdqsortOrdered_uint32.l0, w64_sub b a hab (by omega), if_neg (by omega), if_pos (by omega)]
        rfl
      · rw [pdq_tail a b limit wb wp d h12 hz]
        match n, hn with
        | 0, hn => omega
        | n + 1, hn =>
          cases wb with
          | true =>
            rw [if_pos rfl]
            obtain ⟨s1, s2⟩ := tail_ev n a b limit true wp d hn (by omega) h0 h1 (fun a b wb wp d q1 q2 q3 q4 => pdq_ev n a b limit wb wp d q1 q2 q3 q4 hl)
            refine ⟨s1, Ev.step (fun k => ?_) s2⟩
            rewrite [slices_pdqsortOrdered_uint32.l0, w64_sub b a hab (by omega), if_neg (by omega), if_neg (by omega), if_pos rfl]
            rfl
          | false =>
            rw [if_neg (by simp)]
            obtain ⟨s1, s2⟩ := tail_ev n a b (limit - 1) false wp (Sort.breakPatterns d a b) hn (by omega) (by rw [break_size]; exact h0) (by rw [break_size]; exact h1) (fun a b wb wp d q1 q2 q3 q4 => pdq_ev n a b (limit - 1) wb wp d q1 q2 q3 q4 (by omega))
            rw [break_size] at s1
            refine ⟨s1, Ev.step (fun k => ?_) s2⟩
            rewrite [slices_pdqsortOrdered_uint32.l0, w64_sub b a hab (by omega), if_neg (by omega), if_neg (by omega), if_neg (by simp), break_eq d a b hab h0 h1, Option.bind_some, w64_dec limit (by omega) (by omega)]
            rfl
/-- slices.Sort at uint32: the row, sorted. -/
theorem sort_ev (l : List Int) (hl : l.length < 256) : Ev (fun k => slices_Sort_uint32_uint32.f k l) (l.mergeSort (fun x y => decide (x ≤ y))) := by
  have hle : lenOf (l.length : Int) = (Sort.bitsLen l.length : Int) := by
    unfold lenOf Sort.bitsLen
    by_cases h : l.length = 0
    · rw [if_pos (by omega), if_pos h]; rfl
    · rw [if_neg (by omega), if_neg h, Int.toNat_natCast]
  have hb : bits_Len.f (IntKind.u64.wrap (l.length : Int)) = some ((Sort.bitsLen l.length : Nat) : Int) := by
    rw [wrap_u64_self _ (by omega) (by omega), ← hle]
    exact if_pos ⟨by omega, by omega⟩
  have hbl : Sort.bitsLen l.length ≤ 8 := (Sort.bitsLen_le_iff l.length 8).2 (by omega)
  obtain ⟨s1, s2⟩ := pdq_ev l.length 0 l.length (Sort.bitsLen l.length) true true l.toArray (by omega) (by omega) (by simp) (by simpa using hl) (by omega)
  have hs := Sort.sortInt l
  unfold Sort.sort at hs
  rw [show l.toArray.size = l.length by simp] at hs
  rw [hs] at s2
  have s3 : Ev (fun k => slices_pdqsortOrdered_uint32.f k l 0 (l.length : Int) (Sort.bitsLen l.length : Nat)) (l.mergeSort (fun x y => decide (x ≤ y))) := Ev.step (fun k => by rewrite [slices_pdqsortOrdered_uint32.f]; rfl) s2
  refine Ev.congr (fun k => ?_) (Ev.bind (f := fun _ t => some t) s3 (Ev.now _))
  rewrite [slices_Sort_uint32_uint32.f, hb, Option.bind_some]
  rfl
end Go.Proofs.YtpbjabpakkjomaaDoor.S
