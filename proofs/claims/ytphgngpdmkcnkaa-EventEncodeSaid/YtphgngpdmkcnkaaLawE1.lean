/-
  EventBack walked.
-/
import Derived.Test.YtphgngpdmkcnkaaTapeEv
import Derived.Test.YtphgngpdmkcnkaaEvSame
namespace Go.Proofs.Ytphgngpdmkcnkaa
open Go.RowKit
set_option linter.unusedSimpArgs false

theorem u16_lt {z : Int} (h : (Lit.int .u16 z).wf = true) : 0 ≤ z ∧ z < 65536 := by
  simp [Lit.wf, IntKind.min, IntKind.max, IntKind.signed, IntKind.bits] at h
  omega
/-- A tape made and read in a world behind w. -/
theorem made_below {B : Nat} {w w1 w2 : World} {lo hi g n i : Nat} (h : Below B w w1) (hB : B ≤ w1.heap.size) (hg : w1.grownBy w2 (some g)) (hlo : B ≤ lo) (ht : Tp w1 lo hi g n i) : Below B w w2 :=
  h.grown hg hB (fun k hk => by
    obtain ⟨A, c, _, _, _, h3, _⟩ := ht
    simp at hk
    omega)

set_option maxHeartbeats 1000000 in
theorem back_walk (A : Option Addr) (n c : Nat) (zs : List Int) (h a : Nat) (w : World) (hz : ∀ z ∈ zs, 0 ≤ z ∧ z < 65536) (hn : zs.length = n) (hc : n ≤ c) (hs : Sl w w.heap.size A (nums .u16 zs)) (hh : h < 18446744073709551616) (ha : a < 18446744073709551616) :
    Calls Try.prog 7 #[.slice A n c, .int .u64 h, .int .u64 a] w fun e w' => e = .returned (.bool true) ∧ Below w.heap.size w w' := by
  have HO := hid (of_any A n c 12 zs w hz hn hc hs (by omega))
  clear hz hn hc hs
  go_enter Try.func7, Try.ntmps7
  go_wp2_with fail
  refine HO.out.mono ?_
  rintro e w1 ⟨g, N, rfl, hN, ht1, hb1⟩
  have HT1 := hid ht1
  have HB1 := hid hb1
  clear ht1 hb1
  go_wp2_with fail
  refine (event_any _ _ g N 0 w1 HT1.out (by omega)).mono ?_
  rintro e w2 ⟨p, o, h0, a0, x, i', rfl, ok, _, _, _, _, _, _, hg2⟩
  have HOK := hid ok
  have HB2 := hid (made_below HB1.out HB1.out.size hg2 (Nat.le_refl _) HT1.out)
  clear hg2 ok
  unfold evv
  have HI := hid (fun w => encode_yes p o h a x w HOK.out hh ha)
  have HD := hid (decE_enc p o h a x HOK.out hh ha)
  have HK := hid (fun k => decE_cut p o h a x k HOK.out hh ha)
  have hl : (encE p o h a x).length ≤ 50 := by
    have hb := HOK.out
    unfold EvOK at hb
    exact encs_len [p, o, h, a, x] (by intro n hn; simp at hn; omega)
  obtain ⟨b, hb⟩ : ∃ b, b = encE p o h a x := ⟨_, rfl⟩
  obtain ⟨q, hq⟩ : ∃ q, q = b.length := ⟨_, rfl⟩
  have hq50 : q ≤ 50 := by rw [hq, hb]; exact hl
  rw [← hb] at HD HK HI
  rw [← hq] at HK HI
  have HQ := hid hq
  unfold evv at HI
  clear hl hb hq
  have HB3 := hid (below_go HB2.out (below_new w2 #[.int .i64 (p : Int), .int .i64 (o : Int), .int .u64 (h : Int), .int .u64 (a : Int), .int .i64 (x : Int)] 26))
  have HE3 := hid (ev_new p o h a x w2)
  obtain ⟨w3, hw3⟩ : ∃ w3, w3 = w2.alloc (.cells #[.int .i64 (p : Int), .int .i64 (o : Int), .int .u64 (h : Int), .int .u64 (a : Int), .int .i64 (x : Int)] 26) := ⟨_, rfl⟩
  have HW3 := hid hw3
  rw [← hw3] at HB3 HE3
  clear hw3
  go_wp2_with fail
  simp only [← HW3.out]
  clear HW3
  refine (HI.out _).mono ?_
  rintro e w4 ⟨A4, c4, rfl, ho4, hb4⟩
  have HO4 := hid ho4
  have HB4 := hid (below_go HB3.out hb4)
  have HE4 := hid (ev_keep HE3.out hb4)
  clear ho4 hb4 HI
  go_wp2_with fail
  have HDE := hid (edec_any A4 q c4 b w4 HQ.out.symm (own_le HO4.out) (Sl.of_own HO4.out) (by omega))
  rw [HD.out] at HDE
  unfold retE evv at HDE
  refine HDE.out.mono ?_
  rintro e w5 ⟨rfl, hb5⟩
  have HO5 := hid (own_below HO4.out hb5)
  have HB5 := hid (below_go HB4.out hb5)
  have HE5 := hid (ev_keep HE4.out hb5)
  clear hb5 HDE
  obtain ⟨V, hV⟩ : ∃ V, V = w5.alloc (.cells #[.int .i64 (p : Int), .int .i64 (o : Int), .int .u64 (h : Int), .int .u64 (a : Int), .int .i64 (x : Int)] 26) := ⟨_, rfl⟩
  have HV := hid hV
  have HX6 := hid (show EvAt w5.heap.size p o h a x V by rw [hV]; exact ev_new _ _ _ _ _ _)
  have hvb : Below w5.heap.size w5 V := by rw [hV]; exact below_new _ _ _
  have HO6 := hid (own_below HO5.out hvb)
  have HB6 := hid (below_go HB5.out hvb)
  have HE6 := hid (ev_keep HE5.out hvb)
  clear hV hvb HO5 HB5 HE5 HE4 HE3 HB4 HB3 HO4
  go_wp2_with fail
  simp only [← HV.out]
  clear HV
  go_loopw [12] (fun i wr => ∃ k : Nat, k ≤ q ∧ i = .int .i64 k ∧ Below V.heap.size V wr) (fun i _ => q - (intOf i).toNat)
  case atStart => exact ⟨0, by omega, rfl, Below.refl _ _⟩
  case round =>
    obtain ⟨k, hk, rfl, hb⟩ := hrel
    by_cases hlt : k < q
    · have HB := hid hb
      have HOW := hid (own_below HO6.out hb)
      clear hb
      have hqc := own_le HOW.out
      have HD2 := hid (show ∀ w', Below wr.heap.size wr w' → Calls Try.prog 17 #[.slice A4 k c4] w' fun e w'' => e = .returned (retE (evZero, 2)) ∧ Below w'.heap.size w' w'' from fun w' hb' => by
        have hs := ((Sl.of_own HOW.out).take k).go hb'
        rw [← bys_take] at hs
        have := edec_any A4 k c4 (b.take k) w' (by rw [List.length_take, ← HQ.out]; omega) (by omega) hs (by omega)
        rw [HK.out k hlt] at this
        exact this)
      unfold retE evv evZero at HD2
      go_wp2_with fail
      refine (HD2.out _ (Below.refl _ _)).mono ?_
      rintro e w7 ⟨rfl, hb7⟩
      have HB7 := hid (below_go (below_go HB.out hb7) (below_new w7 #[.int .i64 0, .int .i64 0, .int .u64 0, .int .u64 0, .int .i64 0] 26))
      clear hb7
      go_wp2
      go_roundw
      case rel => exact ⟨k + 1, by omega, by go_num, HB7.out⟩
      case measure => simp [intOf]; omega
    · obtain rfl : k = q := by omega
      have HB := hid hb
      clear hb
      go_wp2_with fail
      refine (awake_any _).mono ?_
      rintro e w7 ⟨rfl, hb7⟩
      have HB7 := hid (below_go HB.out hb7)
      clear hb7
      obtain ⟨⟨f0, f1, f2, f3, f4⟩, hg⟩ := ev_keep HE6.out HB7.out
      obtain ⟨⟨e0, e1, e2, e3, e4⟩, hg'⟩ := ev_keep HX6.out HB7.out
      go_wp2
      go_ret
      exact ⟨rfl, HB6.out.trans (HB7.out.mono HB6.out.size)⟩
end Go.Proofs.Ytphgngpdmkcnkaa
