/- The index's Drop. -/
import Derived.Test.YtpbjabpakkjomaaDoorIC
namespace Go.Proofs.YtpbjabpakkjomaaDoor
open Go.RowKit Go.Proofs.YtpbjabpakkjomaaDoorW.PrintWords Go.Proofs.YtpbjabpakkjomaaDoorW.PrintLast Go.Proofs.YtpbjabpakkjomaaDoorW.PrintMore
set_option linter.unusedVariables false
set_option linter.unusedSimpArgs false

theorem dist_far (a b : Nat) (ha : a < 128) (hb : b < 128) : ((b : Int) - (a : Int)) % 128 = (dist a b : Nat) := by unfold dist; omega
set_option maxRecDepth 100000 in
theorem drop_no (g : Nat) (t : Nat → Pl) (many room key : Int) (k r : Nat) (w : World) (hI : Ix w g t many room) (h : findL t key k (homeOf key) = some r) (hr : r < 128) (ht : (t r).there = false) :
    Calls Tryd.prog 10 #[.pointer (some ⟨g, 0, none⟩), .int .u32 key] w fun e w' => e = .returned (.bool false) ∧ w' = w := by
  have HF := Aside0.mk (find_calls g t many room key k r w hI h)
  have c1 := hI.there r hr
  rw [ht] at c1
  have b1 : (r : Int) < 128 := by omega
  clear hI h hr ht
  go_enter Tryd.func10, Tryd.ntmps10
  go_wp2
  go_step3
  go_wp2_with ((go_at_call 19; refine HF.out.mono ?_; rintro e w1 ⟨rfl, rfl⟩))
  rw [Exit.noGoto_ret]
  go_ret
  exact ⟨rfl, rfl⟩
set_option maxRecDepth 100000 in
set_option maxHeartbeats 1000000 in
theorem drop_yes (g : Nat) (t u : Nat → Pl) (many room key : Int) (k k2 r : Nat) (w : World) (hI : Ix w g t many room) (h : findL t key k (homeOf key) = some r) (hr : r < 128) (ht : (t r).there = true) (hb : 1 ≤ many ∧ many ≤ 128)
    (hd : dropL (putAt t r Pl.none) r k2 r = some u) :
    Calls Tryd.prog 10 #[.pointer (some ⟨g, 0, none⟩), .int .u32 key] w fun e w' => e = .returned (.bool true) ∧ Ix w' g u (many - 1) room ∧ KB w w' g := by
  have HF := Aside0.mk (find_calls g t many room key k r w hI h)
  have HI := Aside0.mk hI
  have c1 := hI.there r hr
  rw [ht] at c1
  have b1 : (r : Int) < 128 := by omega
  have c4 := hI.many
  have f4 := hI.free 384
  have HR := Aside0.mk hr
  have HD := Aside0.mk hd
  have HB := Aside0.mk hb
  have e1 : wrap64 (many - 1) = many - 1 := IntWalk.wrap64_in _ ⟨by omega, by omega⟩
  clear hI h hr ht hd hb
  go_enter Tryd.func10, Tryd.ntmps10
  go_wp2
  go_step3
  go_wp2_with ((go_at_call 19; refine HF.out.mono ?_; rintro e w1 ⟨rfl, rfl⟩))
  go_step3
  go_wp2
  have hx := HI.out.more (many - 1)
  have HI1 := Aside0.mk hx
  have HK1 := Aside0.mk (KB.set_ (KB.refl w1 g) 384 (.int .i64 (many - 1)))
  clear hx HF HI c4 f4
  clear e1 c1 b1 HB
  obtain ⟨w2, hw2⟩ : ∃ w2 : World, w1.setCell ⟨g, 384, none⟩ (.int .i64 (many - 1)) = w2 := ⟨_, rfl⟩
  rw [hw2] at HI1 HK1 ⊢
  clear hw2
  obtain ⟨m1, hm1⟩ : ∃ m1 : Int, many - 1 = m1 := ⟨_, rfl⟩
  rw [hm1] at HI1
  have HM := Aside0.mk hm1
  clear hm1
  go_loopg [5, 6] k2 (fun kq v5 v6 w' => ∃ (x y : Nat) (t' : Nat → Pl), v5 = .int .i64 x ∧ v6 = .int .i64 y ∧ x < 128 ∧ y < 128 ∧ Aside0 (dropL (putAt t' x Pl.none) x kq y = some u) ∧ Aside0 (Ix w' g t' m1 room) ∧ Aside0 (KB w1 w' g))
  case atStart => exact ⟨r, r, t, rfl, rfl, HR.out, HR.out, HD, HI1, HK1⟩
  case round =>
    clear HI1 HK1 HD HR
    obtain ⟨gq, rfl⟩ : ∃ gq : Nat, gq = gk := ⟨_, rfl⟩
    obtain ⟨x, y, t', rfl, rfl, hx, hy, HD, HI, HK⟩ := hrel
    have hlt := HI.out.lt
    have c1 := HI.out.there x hx
    have c2 := HI.out.key x hx
    have c3 := HI.out.slot x hx
    have f1 := HI.out.free (x * 3)
    have f2 := HI.out.free (x * 3 + 1)
    have f3 := HI.out.free (x * 3 + 2)
    have b1 : (x : Int) < 128 := by omega
    go_wp2
    obtain ⟨w3, hw3⟩ : ∃ w3 : World, ((wr.setCell ⟨g, x * 3, none⟩ (.bool false)).setCell ⟨g, x * 3 + 1, none⟩ (.int .u32 0)).setCell ⟨g, x * 3 + 2, none⟩ (.int .i64 0) = w3 := ⟨_, rfl⟩
    obtain ⟨t2, ht2⟩ : ∃ t2, putAt t' x Pl.none = t2 := ⟨_, rfl⟩
    have hI2 : Ix w3 g t2 m1 room := by rw [← hw3, ← ht2]; exact HI.out.put x hx Pl.none
    have hK2 : KB w1 w3 g := by rw [← hw3]; exact KB.set_ (KB.set_ (KB.set_ HK.out _ _) _ _) _ _
    rw [hw3]
    rw [ht2] at HD
    have HI2 := Aside0.mk hI2
    have HK2 := Aside0.mk hK2
    have HX := Aside0.mk hx
    clear hw3 ht2 hI2 hK2 HI HK hx c1 c2 c3 f1 f2 f3 hlt
    have b2 : (y : Int) < 128 := by omega
    go_loopg [5, 6] gq (fun k v5 v6 w' => ∃ (y : Nat), v5 = .int .i64 x ∧ v6 = .int .i64 y ∧ y < 128 ∧ Aside0 (k ≤ gq) ∧ Aside0 (dropL t2 x k y = some u) ∧ Aside0 (Ix w' g t2 m1 room) ∧ Aside0 (KB w1 w' g))
    case atStart => exact ⟨y, rfl, rfl, hy, .mk (Nat.le_refl _), HD, HI2, HK2⟩
    case round =>
      clear HD HI2 HK2 hy b2
      obtain ⟨y, rfl, rfl, hy, HG, HD, HI, HK⟩ := hrel
      cases gk with
      | zero => exact absurd HD.out (by simp [dropL])
      | succ k1 =>
        have hd := HD.out
        clear HD
        obtain ⟨z, hz⟩ : ∃ z, (y + 1) % 128 = z := ⟨_, rfl⟩
        unfold dropL at hd
        rw [hz] at hd
        have hz' : z < 128 := by omega
        have e4 : ((y : Int) + 1) % 128 = (z : Int) := by omega
        have b3 : (z : Int) < 128 := by omega
        have e3 : wrap64 ((y : Int) + 1) = (y : Int) + 1 := IntWalk.wrap64_in _ ⟨by omega, by omega⟩
        have hlt := HI.out.lt
        have c1 := HI.out.there z hz'
        have c2 := HI.out.key z hz'
        have c3 := HI.out.slot z hz'
        obtain ⟨pz, hpz⟩ : ∃ p, t2 z = p := ⟨_, rfl⟩
        rw [hpz] at c1 c2 c3 hd
        obtain ⟨th, ky, sl⟩ := pz
        dsimp only at c1 c2 c3 hd
        cases th with
        | false =>
          rw [if_pos rfl] at hd
          have HU := Aside0.mk (Option.some.inj hd)
          have HZ := Aside0.mk hz
          clear hd hpz hz hy
          go_wp2
          rw [Exit.noGoto_ret]
          go_ret
          exact ⟨rfl, by rw [HM.out, ← HU.out]; exact HI.out.alloc _, kb_alloc HK.out _⟩
        | true =>
          rw [if_neg (by simp)] at hd
          obtain ⟨hm, hhm⟩ : ∃ hm, homeOf ky = hm := ⟨_, rfl⟩
          have hm' : hm < 128 := by rw [← hhm]; exact homeOf_lt ky
          have hc := home_calls ky
          rw [hhm] at hc hd
          have HC := Aside0.mk hc
          clear hc
          have f1 := dist_far x z HX.out hz'
          have f2 := dist_far hm z hm' hz'
          have b5 : (hm : Int) < 128 := by omega
          by_cases hl : dist x z ≤ dist hm z
          · rw [if_pos hl] at hd
            have d1 : decide ((dist x z : Int) ≤ (dist hm z : Int)) = true := decide_eq_true (by omega)
            rw [← f1, ← f2] at d1
            have HD := Aside0.mk hd
            clear hd hpz hhm hz hy hl f1 f2
            go_wp2_with ((go_at_call 20; refine (HC.out _).mono ?_; rintro e w' ⟨rfl, rfl⟩))
            have g1 := HI.out.there x HX.out
            have g2 := HI.out.key x HX.out
            have g3 := HI.out.slot x HX.out
            have f1 := HI.out.free (x * 3)
            have f2 := HI.out.free (x * 3 + 1)
            have f3 := HI.out.free (x * 3 + 2)
            go_region
            go_wp2
            refine Handed.intro k1 ?measure2 ?_
            rotate_left
            go_step
            (repeat apply Exists.intro)
            refine ⟨?rel2, rfl⟩
            case measure2 => have := HG.out; omega
            case rel2 => exact ⟨z, z, putAt t2 x ⟨true, ky, sl⟩, rfl, rfl, hz', hz', HD, .mk ((HI.out.put x HX.out ⟨true, ky, sl⟩).alloc _).drew, .mk (kb_drew (kb_alloc (KB.set_ (KB.set_ (KB.set_ HK.out _ _) _ _) _ _) _))⟩
          · rw [if_neg hl] at hd
            have d1 : decide ((dist x z : Int) ≤ (dist hm z : Int)) = false := decide_eq_false (by omega)
            have d2 : (dist hm z : Int) < (dist x z : Int) := by omega
            rw [← f1, ← f2] at d1 d2
            have HD := Aside0.mk hd
            clear hd hpz hhm hz hy hl f1 f2
            go_wp2_with ((go_at_call 20; refine (HC.out _).mono ?_; rintro e w' ⟨rfl, rfl⟩))
            go_roundg k1
            case measure => exact Nat.lt_succ_self _
            case rel => exact ⟨z, rfl, rfl, hz', .mk (by have := HG.out; omega), HD, .mk (HI.out.alloc _), .mk (kb_alloc HK.out _)⟩
end Go.Proofs.YtpbjabpakkjomaaDoor
