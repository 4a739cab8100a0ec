/- The law IndexDoes: one act. -/
import Derived.Test.YtpbjabpakkjomaaDoorLA
import Derived.Test.YtpbjabpakkjomaaDoorLB
import Derived.Test.YtpbjabpakkjomaaDoorCB
import Derived.Deep.DeepCutAuto
namespace Go.Proofs.YtpbjabpakkjomaaDoor
open Go.RowKit Go.Proofs.YtpbjabpakkjomaaDoorW.PrintWords Go.Proofs.YtpbjabpakkjomaaDoorW.PrintLast Go.Proofs.YtpbjabpakkjomaaDoorW.PrintMore
set_option linter.unusedVariables false
set_option linter.unusedSimpArgs false

/-- both objects, each holding a list. -/
structure Two (w0 W : World) (gi gr : Nat) (L1 L2 : List (Int × Int)) (room : Int) : Prop where
  io : Io W gi L1 room
  rx : Rx W gr w0.heap.size gi L2 room
  below : Below w0.heap.size w0 W
  ix : w0.heap.size ≤ gi
  rr : w0.heap.size ≤ gr
  ne : gi ≠ gr
  len1 : (L1.length : Int) ≤ room
  len2 : (L2.length : Int) ≤ room
  room64 : room ≤ 64
theorem KB.cell {w w' : World} {g : Nat} (h : KB w w' g) {a : Addr} {v : Value} (hc : w.cell? a = some v) (hne : a.block ≠ g) : w'.cell? a = some v :=
  (World.cell?_of_block (a := a) (h.keep.2 a.block (World.block_lt_of_cell? w a hc) hne (by simp))).trans hc
theorem Below.cell' {w w' : World} (h : Below w.heap.size w w') {a : Addr} {v : Value} (hc : w.cell? a = some v) : w'.cell? a = some v :=
  (h.cell (p := a) (World.block_lt_of_cell? w a hc)).trans hc
theorem Rx.cell0 {W : World} {g base gi : Nat} {L : List (Int × Int)} {room : Int} (h : Rx W g base gi L room) : ∃ A c, W.cell? ⟨g, 0, none⟩ = some (.slice A L.length c) := by
  obtain ⟨v, hb, hr⟩ := h
  obtain ⟨A, c, rfl, _, _⟩ := Kd.R_reads hr
  exact ⟨A, c, blk_cell hb 0⟩
theorem numbers_keys (L : List (Int × Int)) (h : L.length ≤ 64) (W : World) (A8 A9 : Option Addr) (c8 c9 : Nat) (h8 : (Kd.int .u32).C W A8 L.length (L.map (·.1))) (k8 : L.length ≤ c8) (h9 : (Kd.int .u32).C W A9 L.length (L.map (·.1))) (k9 : L.length ≤ c9) :
    Calls Tryd.prog 15 #[.slice A8 L.length c8, .slice A9 L.length c9] W fun e w' => e = .returned (.bool true) ∧ Below W.heap.size W w' := by
  have e : (L.map (·.1)).length = L.length := List.length_map _
  obtain ⟨k, hk⟩ := numbers_self (L.map (·.1)) (by omega)
  have := N.platelayerref06_Numbers.calls k A8 c8 (L.map (·.1)) A9 c9 (L.map (·.1)) true W (by rw [e]; exact h8) (by omega) (by rw [e]; exact h9) (by omega) hk
  rw [e] at this
  exact this.mono fun _ _ hh => ⟨hh.1, hh.2.below⟩
def Cells (W W' : World) (g : Nat) : Prop := ∀ (a : Addr) v, a.block ≠ g → W.cell? a = some v → W'.cell? a = some v
section
variable {w0 W : World} {gi gr : Nat} {L1 L2 : List (Int × Int)} {room : Int}
theorem Two.then_ (h : Two w0 W gi gr L1 L2 room) {W' : World} (hb : Below W.heap.size W W') : Two w0 W' gi gr L1 L2 room :=
  ⟨h.io.below hb, h.rx.below hb, h.below.trans (hb.mono h.below.size), h.ix, h.rr, h.ne, h.len1, h.len2, h.room64⟩
theorem Two.put1 (h : Two w0 W gi gr L1 L2 room) {key : Int} (hk : 0 ≤ key ∧ key < 4294967296) (slot : Int) :
    Calls Tryd.prog 8 #[.pointer (some ⟨gi, 0, none⟩), .int .u32 key, .int .i64 slot] W fun e w' => e = .returned (.bool (putB L1 key room)) ∧ Two w0 w' gi gr (putL L1 key slot room) L2 room ∧ Cells W w' gi :=
  (put_io gi L1 room key slot W h.io hk h.len1 h.room64).mono fun _ _ hh => ⟨hh.1, ⟨hh.2.1, h.rx.keep hh.2.2 h.ne.symm, below_kb h.below hh.2.2 h.ix h.below.size, h.ix, h.rr, h.ne, putL_le L1 h.io.rise key slot room h.len1, h.len2, h.room64⟩, fun _ _ hn hc => KB.cell hh.2.2 hc hn⟩
theorem Two.put2 (h : Two w0 W gi gr L1 L2 room) (hr : L2.Pairwise fun p q => p.1 < q.1) (key slot : Int) :
    Calls Tryd.prog 9 #[.pointer (some ⟨gr, 0, none⟩), .int .u32 key, .int .i64 slot] W fun e w' => e = .returned (.bool (putB L2 key room)) ∧ Two w0 w' gi gr L1 (putL L2 key slot room) room ∧ Cells W w' gr :=
  (put_ref gr w0.heap.size gi L2 room key slot W h.rx (by have := h.len2; have := h.room64; omega) h.below.size h.io.lt).mono fun _ _ hh => ⟨hh.1, ⟨h.io.keep hh.2.2 h.ne, hh.2.1, below_kb h.below hh.2.2 h.rr h.below.size, h.ix, h.rr, h.ne, h.len1, putL_le L2 hr key slot room h.len2, h.room64⟩, fun _ _ hn hc => KB.cell hh.2.2 hc hn⟩
theorem Two.drop1 (h : Two w0 W gi gr L1 L2 room) (key : Int) :
    Calls Tryd.prog 10 #[.pointer (some ⟨gi, 0, none⟩), .int .u32 key] W fun e w' => e = .returned (.bool (decide ((refDrop L1 key).length < L1.length))) ∧ Two w0 w' gi gr (refDrop L1 key) L2 room ∧ Cells W w' gi :=
  (drop_io gi L1 room key W h.io).mono fun _ _ hh => ⟨hh.1, ⟨hh.2.1, h.rx.keep hh.2.2 h.ne.symm, below_kb h.below hh.2.2 h.ix h.below.size, h.ix, h.rr, h.ne, by have := refDrop_le L1 key; have := h.len1; omega, h.len2, h.room64⟩, fun _ _ hn hc => KB.cell hh.2.2 hc hn⟩
theorem Two.drop2 (h : Two w0 W gi gr L1 L2 room) (key : Int) :
    Calls Tryd.prog 11 #[.pointer (some ⟨gr, 0, none⟩), .int .u32 key] W fun e w' => e = .returned (.bool (decide ((refDrop L2 key).length < L2.length))) ∧ Two w0 w' gi gr L1 (refDrop L2 key) room ∧ Cells W w' gr :=
  (drop_ref_calls gr w0.heap.size gi L2 room key W h.rx (by have := h.len2; have := h.room64; omega) h.below.size h.io.lt).mono fun _ _ hh => ⟨hh.1, ⟨h.io.keep hh.2.2 h.ne, hh.2.1, below_kb h.below hh.2.2 h.rr h.below.size, h.ix, h.rr, h.ne, h.len1, by have := refDrop_le L2 key; have := h.len2; omega, h.room64⟩, fun _ _ hn hc => KB.cell hh.2.2 hc hn⟩
theorem Two.get1 (h : Two w0 W gi gr L1 L2 room) (key : Int) :
    Calls Tryd.prog 12 #[.pointer (some ⟨gi, 0, none⟩), .int .u32 key] W fun e w' => e = .returned (.tuple #[.int .i64 (getR L1 key).1, .bool (getR L1 key).2]) ∧ Two w0 w' gi gr L1 L2 room ∧ Below W.heap.size W w' :=
  (get_io gi L1 room key W h.io).mono fun _ _ hh => ⟨hh.1, h.then_ hh.2, hh.2⟩
theorem Two.get2 (h : Two w0 W gi gr L1 L2 room) (key : Int) :
    Calls Tryd.prog 13 #[.pointer (some ⟨gr, 0, none⟩), .int .u32 key] W fun e w' => e = .returned (.tuple #[.int .i64 (getR L2 key).1, .bool (getR L2 key).2]) ∧ Two w0 w' gi gr L1 L2 room ∧ Below W.heap.size W w' :=
  (get_ref_calls gr w0.heap.size gi L2 room key W h.rx (by have := h.len2; have := h.room64; omega)).mono fun _ _ hh => by
    obtain ⟨he, n, rfl⟩ := hh
    have := pw_below_drewN (Below.refl W.heap.size W) n
    exact ⟨he, h.then_ this, this⟩
end
theorem law_bad1 (l : List Ac) (A : Option Addr) (c : Nat) (room key : Int) (w : World) (h : 300 < l.length) :
    Calls Tryd.prog 3 #[.int .i64 room, .slice A l.length c, .int .u32 key] w fun e w' => e = .returned (.bool true) ∧ Below w.heap.size w w' := by
  have d1 : decide ((300 : Int) < (l.length : Int)) = true := decide_eq_true (by omega)
  clear h
  go_enter Tryd.func3, Tryd.ntmps3
  go_wp2_with ((go_at_call 4; refine (awake_calls _).mono ?_; rintro e w1 ⟨rfl, b1⟩))
  go_ret
  exact ⟨rfl, b1⟩
set_option maxRecDepth 100000 in
theorem law_bad2 (l : List Ac) (A : Option Addr) (c : Nat) (room key : Int) (w : World) (hl : l.length ≤ 300) (h : room < 1 ∨ room > 64) (hg : w.cell? ⟨0, 0, none⟩ = some (.iface 76 (.agg #[.pointer (some ⟨1, 27, none⟩)]))) :
    Calls Tryd.prog 3 #[.int .i64 room, .slice A l.length c, .int .u32 key] w fun e w' => e = .returned (.bool true) ∧ Below w.heap.size w w' := by
  have d1 : decide ((300 : Int) < (l.length : Int)) = false := decide_eq_false (by omega)
  have HG := Aside0.mk hg
  have H := Aside0.mk h
  clear h hl hg
  go_enter Tryd.func3, Tryd.ntmps3
  go_wp2_with fail
  refine (awake_calls _).mono ?_
  rintro e w1 ⟨rfl, b1⟩
  have B1 := Aside0.mk b1
  have HG1 := Aside0.mk (Below.cell' b1 HG.out)
  clear b1
  go_wp2_with fail
  refine (new_bad room _ H.out).mono ?_
  rintro e w2 ⟨rfl, rfl⟩
  go_wp2_with fail
  refine (new_ref_bad room _ H.out).mono ?_
  rintro e w3 ⟨rfl, rfl⟩
  go_wp2_with fail
  refine (code_errno 1 _ HG1.out).mono ?_
  rintro e w4 ⟨rfl, b4⟩
  have B4 := Aside0.mk b4
  clear b4
  go_wp2
  go_ret
  exact ⟨rfl, B1.out.trans (B4.out.mono B1.out.size)⟩
set_option maxRecDepth 100000 in
set_option maxHeartbeats 4000000 in
theorem law_good (l : List Ac) (A : Option Addr) (c : Nat) (room key : Int) (w : World) (hl : l.length ≤ 300) (h1 : ¬ room < 1) (h2 : ¬ room > 64) (hC : ka.C w A l.length l) (hk : ∀ a ∈ l, 0 ≤ a.key ∧ a.key < 4294967296) :
    Calls Tryd.prog 3 #[.int .i64 room, .slice A l.length c, .int .u32 key] w fun e w' => e = .returned (.bool true) ∧ Below w.heap.size w w' := by
  have d1 : decide ((300 : Int) < (l.length : Int)) = false := decide_eq_false (by omega)
  have HC := Aside0.mk hC
  have HK := Aside0.mk hk
  have HL := Aside0.mk hl
  have H1 := Aside0.mk h1
  have H2 := Aside0.mk h2
  clear h1 h2 hC hk
  go_enter Tryd.func3, Tryd.ntmps3
  go_wp2_with fail
  refine (awake_calls _).mono ?_
  rintro e w1 ⟨rfl, b1⟩
  have B1 := Aside0.mk b1
  have hs1 := b1.size
  clear b1
  go_wp2_with fail
  refine (new_io room _ (by have := H1.out; omega) (by have := H2.out; omega)).mono ?_
  rintro e w2 ⟨rfl, i2, b2⟩
  have I2 := Aside0.mk i2
  have hs2 := i2.lt
  have B2 := Aside0.mk (B1.out.trans (b2.mono hs1))
  clear i2 b2
  go_wp2_with fail
  refine (new_ref_good room _ (by have := H1.out; omega) (by have := H2.out; omega)).mono ?_
  rintro e w3 ⟨rfl, r3, b3⟩
  have R3 := Aside0.mk r3
  have I3 := Aside0.mk (I2.out.below b3)
  have hs3 := (r3 0 0).lt
  have B3 := Aside0.mk (B2.out.trans (b3.mono (by omega)))
  clear r3 b3
  go_wp2_with fail
  refine (code_nil _).mono ?_
  rintro e w4 ⟨rfl, b4⟩
  have hs4 := b4.size
  have HT : Aside0 (Two w w4 w1.heap.size w2.heap.size [] [] room) := ⟨⟨I3.out.below b4, (R3.out w.heap.size w1.heap.size).below b4, B3.out.trans (b4.mono (by omega)), by omega, by omega, by omega, by simp; have := H1.out; omega, by simp; have := H1.out; omega, by have := H2.out; omega⟩⟩
  clear b4 I2 I3 R3 B1 B2 B3
  obtain ⟨gi, hgi⟩ : ∃ gi, w1.heap.size = gi := ⟨_, rfl⟩
  obtain ⟨gr, hgr⟩ : ∃ gr, w2.heap.size = gr := ⟨_, rfl⟩
  have hx1 : w.heap.size ≤ gi := by omega
  have hx2 : w.heap.size ≤ gr := by omega
  have hx3 : gi ≠ gr := by omega
  rw [hgi, hgr] at HT
  rw [hgi, hgr]
  clear hgi hgr hs1 hs2 hs3 hs4
  have HX1 := Aside0.mk hx1
  have HX2 := Aside0.mk hx2
  have HX3 := Aside0.mk hx3
  clear hx1 hx2 hx3 hl
  go_wp2
  go_loopg [52] l.length (fun kq v52 w' => ∃ (i : Nat) (L : List (Int × Int)), v52 = .int .i64 (i : Int) ∧ Aside0 (i + kq = l.length) ∧ Aside0 (Two w w' gi gr L L room))
  case atStart => exact ⟨0, [], rfl, .mk (by omega), HT⟩
  case round =>
    clear HT
    obtain ⟨i, L, rfl, HE, HT⟩ := hrel
    by_cases hi : i < l.length
    · obtain ⟨ad, rfl, q0, q1, q2⟩ := acts_at HC.out i hi
      have hka := HK.out (l.getD i default) (by rw [List.getD_eq_getElem?_getD, List.getElem?_eq_getElem hi]; exact List.getElem_mem hi)
      obtain ⟨⟨ac, ky, sl⟩, ha⟩ : ∃ a : Ac, l.getD i default = a := ⟨_, rfl⟩
      rw [ha] at q0 q1 q2 hka
      dsimp only at q0 q1 q2 hka
      have hb := HT.out.below
      have p0 := (hb.cell (World.block_lt_of_cell? w _ q0)).trans q0
      have p1 := (hb.cell (World.block_lt_of_cell? w _ q1)).trans q1
      have p2 := (hb.cell (World.block_lt_of_cell? w _ q2)).trans q2
      have b1 : (i : Int) < (l.length : Int) := by omega
      have HI := Aside0.mk hi
      have HKA := Aside0.mk hka
      have b2 : (l.length : Int) ≤ 300 := by have := HL.out; omega
      clear ha hi q0 q1 q2 hka hb
      go_upto_block 2 with (fail)
      have HT5 := Aside0.mk (HT.out.then_ (below_alloc (Below.refl _ _) (.cells #[.int .i64 ac, .int .u32 ky, .int .i64 sl] 36)))
      have HNI : Aside0 (wr.heap.size ≠ gi) := ⟨by have := HT.out.io.lt; omega⟩
      have HNR : Aside0 (wr.heap.size ≠ gr) := ⟨by have := HT.out.rx.lt; omega⟩
      have HRI := Aside0.mk HT.out.io.rise
      have m1 : (wr.alloc (.cells #[.int .i64 ac, .int .u32 ky, .int .i64 sl] 36)).cell? ⟨wr.heap.size, 1, none⟩ = some (.int .u32 ky) := by simp
      have m2 : (wr.alloc (.cells #[.int .i64 ac, .int .u32 ky, .int .i64 sl] 36)).cell? ⟨wr.heap.size, 2, none⟩ = some (.int .i64 sl) := by simp
      obtain ⟨bA, hbA⟩ : ∃ bA, wr.heap.size = bA := ⟨_, rfl⟩
      rw [hbA] at HNI HNR m1 m2 ⊢
      obtain ⟨w5, hw5⟩ : ∃ w5 : World, wr.alloc (.cells #[.int .i64 ac, .int .u32 ky, .int .i64 sl] 36) = w5 := ⟨_, rfl⟩
      rw [hw5] at HT5 m1 m2 ⊢
      clear hw5 hbA p0 p1 p2 HT
      have HTD : Aside0 (Two w w5.drew gi gr L L room) := ⟨HT5.out.then_ (Below.refl _ _).drew⟩
      have MD1 : Aside0 (w5.drew.cell? ⟨bA, 1, none⟩ = some (.int .u32 ky)) := ⟨m1⟩
      have MD2 : Aside0 (w5.drew.cell? ⟨bA, 2, none⟩ = some (.int .i64 sl)) := ⟨m2⟩
      go_cut [13] (fun v13 w' => v13 = .bool true ∧ ∃ L', Aside0 (Two w w' gi gr L' L' room))
      case first =>
        clear HE HI
        by_cases h0 : ac = 0
        · have e0 : (ac == 0) = true := by simpa using h0
          clear h0
          go_wp2
          go_region_held3 (fun w' => w'.cell? ⟨bA, 1, none⟩ = some (.int .u32 ky) ∧ w'.cell? ⟨bA, 2, none⟩ = some (.int .i64 sl)) (first | go_keep | exact ⟨by assumption, by assumption⟩) (first
            | ((go_at_call 8; refine ((Aside0.out (by assumption : Aside0 (Two w _ gi gr L _ room))).put1 (by have := HKA.out; exact this) sl).mono ?_; rintro e w6 ⟨rfl, ht, hc⟩; have k1 := hc ⟨bA, 1, none⟩ _ HNI.out (Aside0.out (by assumption)); have k2 := hc ⟨bA, 2, none⟩ _ HNI.out (Aside0.out (by assumption)); have K1 := Aside0.mk k1; have K2 := Aside0.mk k2; have HT6 := Aside0.mk ht; clear ht hc))
            | ((go_at_call 9; refine ((Aside0.out (by assumption : Aside0 (Two w _ gi gr _ L room))).put2 HRI.out ky sl).mono ?_; rintro e w6 ⟨rfl, ht, hc⟩; have k1 := hc ⟨bA, 1, none⟩ _ HNR.out (Aside0.out (by assumption)); have k2 := hc ⟨bA, 2, none⟩ _ HNR.out (Aside0.out (by assumption)); have K1 := Aside0.mk k1; have K2 := Aside0.mk k2; have HT6 := Aside0.mk ht; clear ht hc)))
          all_goals
            go_wp2
            go_meet
            exact ⟨by simp, _, by assumption⟩
        · have e0 : (ac == 0) = false := by simpa using h0
          by_cases h1 : ac = 1
          · have e1 : (ac == 1) = true := by simpa using h1
            clear h0 h1
            go_wp2
            go_region_held3 (fun w' => w'.cell? ⟨bA, 1, none⟩ = some (.int .u32 ky) ∧ w'.cell? ⟨bA, 2, none⟩ = some (.int .i64 sl)) (first | go_keep | exact ⟨by assumption, by assumption⟩) (first
              | ((go_at_call 10; refine ((Aside0.out (by assumption : Aside0 (Two w _ gi gr L _ room))).drop1 ky).mono ?_; rintro e w6 ⟨rfl, ht, hc⟩; have k1 := hc ⟨bA, 1, none⟩ _ HNI.out (Aside0.out (by assumption)); have k2 := hc ⟨bA, 2, none⟩ _ HNI.out (Aside0.out (by assumption)); have K1 := Aside0.mk k1; have K2 := Aside0.mk k2; have HT6 := Aside0.mk ht; clear ht hc))
              | ((go_at_call 11; refine ((Aside0.out (by assumption : Aside0 (Two w _ gi gr _ L room))).drop2 ky).mono ?_; rintro e w6 ⟨rfl, ht, hc⟩; have k1 := hc ⟨bA, 1, none⟩ _ HNR.out (Aside0.out (by assumption)); have k2 := hc ⟨bA, 2, none⟩ _ HNR.out (Aside0.out (by assumption)); have K1 := Aside0.mk k1; have K2 := Aside0.mk k2; have HT6 := Aside0.mk ht; clear ht hc)))
            all_goals
              go_wp2
              go_meet
              exact ⟨by simp, _, by assumption⟩
          · have e1 : (ac == 1) = false := by simpa using h1
            clear h0 h1
            go_wp2_with (first
              | (go_at_call 12; refine ((Aside0.out (by assumption : Aside0 (Two w _ gi gr L L room))).get1 ky).mono ?_; rintro e w6 ⟨rfl, ht, hb⟩; have k1 := Below.cell' hb (a := ⟨bA, 1, none⟩) (by assumption : World.cell? _ ⟨bA, 1, none⟩ = some (.int .u32 ky)); have HT6 := Aside0.mk ht; clear ht hb)
              | (go_at_call 13; refine ((Aside0.out (by assumption : Aside0 (Two w _ gi gr L L room))).get2 ky).mono ?_; rintro e w6 ⟨rfl, ht, hb⟩; have k1 := Below.cell' hb (a := ⟨bA, 1, none⟩) (by assumption : World.cell? _ ⟨bA, 1, none⟩ = some (.int .u32 ky)); have HT6 := Aside0.mk ht; clear ht hb))
            go_meet
            exact ⟨by simp, _, by assumption⟩
      case rest =>
        obtain ⟨rfl, L', HT6⟩ := hcut
        clear m1 m2 HT5 HRI HTD MD1 MD2
        obtain ⟨n0, hn0⟩ : ∃ n0, (getR L' key).1 = n0 := ⟨_, rfl⟩
        obtain ⟨z0, hz0⟩ : ∃ z0, (getR L' key).2 = z0 := ⟨_, rfl⟩
        have HG1 : Aside0 (∀ W, Two w W gi gr L' L' room → Calls Tryd.prog 12 #[.pointer (some ⟨gi, 0, none⟩), .int .u32 key] W fun e w' => e = .returned (.tuple #[.int .i64 n0, .bool z0]) ∧ Two w w' gi gr L' L' room ∧ Below W.heap.size W w') := ⟨fun W h => by rw [← hn0, ← hz0]; exact h.get1 key⟩
        have HG2 : Aside0 (∀ W, Two w W gi gr L' L' room → Calls Tryd.prog 13 #[.pointer (some ⟨gr, 0, none⟩), .int .u32 key] W fun e w' => e = .returned (.tuple #[.int .i64 n0, .bool z0]) ∧ Two w w' gi gr L' L' room ∧ Below W.heap.size W w') := ⟨fun W h => by rw [← hn0, ← hz0]; exact h.get2 key⟩
        clear hn0 hz0
        go_wp2_with (first
          | (go_at_call 12; refine (HG1.out _ (Aside0.out (by assumption))).mono ?_; rintro e w6 ⟨rfl, ht, hb⟩; have HT7 := Aside0.mk ht; clear ht hb)
          | (go_at_call 13; refine (HG2.out _ (Aside0.out (by assumption))).mono ?_; rintro e w7 ⟨rfl, ht, hb⟩; have HT8 := Aside0.mk ht; clear ht hb))
        obtain ⟨Ar, cr, hcr⟩ := HT8.out.rx.cell0
        have e1 : (n0 != n0) = false := by simp
        have e2 : (z0 != z0) = false := by simp
        have e3 : ((L'.length : Int) != (L'.length : Int)) = false := by simp
        have HLE : Aside0 (L'.length ≤ 64) := ⟨by have := HT8.out.len1; have := HT8.out.room64; omega⟩
        have HTD : Aside0 (Two w w7.drew gi gr L' L' room) := ⟨HT8.out.then_ (Below.refl _ _).drew⟩
        have HCR : Aside0 (w7.drew.cell? ⟨gr, 0, none⟩ = some (.slice Ar L'.length cr)) := ⟨hcr⟩
        clear HT6 HT7
        go_region_held3 (fun w' => w'.cell? ⟨gr, 0, none⟩ = some (.slice Ar L'.length cr)) (first | go_keep | assumption | exact Aside0.out (by assumption)) (first
          | ((go_at_call 14; refine (len_io gi L' room _ (Two.io (Aside0.out (by assumption : Aside0 (Two w _ gi gr L' L' room))))).mono ?_; rintro e w8 ⟨rfl, rfl⟩))
          | ((go_at_call 16; refine (keys_io gi L' room _ (Two.io (Aside0.out (by assumption : Aside0 (Two w _ gi gr L' L' room))))).mono ?_; rintro e w8 ⟨v8, rfl, hv, hb⟩; obtain ⟨A8, c8, he8, hc8, hC8⟩ := Kd.R_reads hv; rw [List.length_map] at he8 hc8 hC8; subst he8; have HT9 : Aside0 (Two w w8 gi gr L' L' room) := ⟨Two.then_ (Aside0.out (by assumption)) hb⟩; have HCR8 : Aside0 (w8.cell? ⟨gr, 0, none⟩ = some (.slice Ar L'.length cr)) := ⟨Below.cell' hb (Aside0.out (by assumption))⟩; have HV8 := Aside0.mk hC8; have HC8 := Aside0.mk hc8; clear hv hb hC8 hc8))
          | ((go_at_call 17; refine (keys_ref_calls gr w.heap.size gi L' room _ (Two.rx (Aside0.out (by assumption : Aside0 (Two w _ gi gr L' L' room)))) HLE.out).mono ?_; rintro e w9 ⟨v9, rfl, hv, hb⟩; obtain ⟨A9, c9, he9, hc9, hC9⟩ := Kd.R_reads hv; rw [List.length_map] at he9 hc9 hC9; subst he9; have HT10 : Aside0 (Two w w9 gi gr L' L' room) := ⟨Two.then_ (Aside0.out (by assumption)) hb⟩; have HCR9 : Aside0 (w9.cell? ⟨gr, 0, none⟩ = some (.slice Ar L'.length cr)) := ⟨Below.cell' hb (Aside0.out (by assumption))⟩; have HV9 := Aside0.mk hC9; have HC9 := Aside0.mk hc9; have HV8' := Aside0.mk (Kd.C_below HV8.out hb); clear hv hb hC9 hc9))
          | ((go_at_call 15; refine (numbers_keys L' HLE.out _ A8 A9 c8 c9 HV8'.out HC8.out HV9.out HC9.out).mono ?_; rintro e w10 ⟨rfl, hd⟩; have HT11 : Aside0 (Two w w10 gi gr L' L' room) := ⟨Two.then_ (Aside0.out (by assumption)) hd⟩; have HCR10 : Aside0 (w10.cell? ⟨gr, 0, none⟩ = some (.slice Ar L'.length cr)) := ⟨Below.cell' hd (Aside0.out (by assumption))⟩; clear hd)))
        all_goals
          have e3' : wrap64 ((i : Int) + 1) = (i : Int) + 1 := IntWalk.wrap64_in _ ⟨by omega, by omega⟩
          go_wp2
          go_roundg (gk - 1)
          case measure => have := HE.out; have := HI.out; omega
          case rel => exact ⟨i + 1, L', by rw [Int.natCast_add]; rfl, .mk (by have := HE.out; have := HI.out; omega), by assumption⟩
    · have b1 : ¬ (i : Int) < (l.length : Int) := by omega
      have d2 : decide ((i : Int) < (l.length : Int)) = false := decide_eq_false b1
      clear hi
      go_wp2
      go_ret
      exact ⟨rfl, HT.out.below⟩
end Go.Proofs.YtpbjabpakkjomaaDoor
