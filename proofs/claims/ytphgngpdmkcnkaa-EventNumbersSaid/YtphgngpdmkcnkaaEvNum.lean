/-
  EventNumbers, walked: five numbers, one encoding behind the other.
-/
import Derived.Test.YtphgngpdmkcnkaaEvSame
import Derived.Test.YtphgngpdmkcnkaaWireP
import Derived.Test.YtphgngpdmkcnkaaMem2
namespace Go.Proofs.Ytphgngpdmkcnkaa
open Go.RowKit

set_option maxHeartbeats 2000000 in
theorem numbers_yes (n0 n1 n2 n3 n4 s0 s1 s2 s3 s4 q : Nat) (A : Option Addr) (m c : Nat) (l : List UInt8) (w : World) (hn0 : n0 < 18446744073709551616) (hn1 : n1 < 18446744073709551616) (hn2 : n2 < 18446744073709551616) (hn3 : n3 < 18446744073709551616) (hn4 : n4 < 18446744073709551616)
    (hs0 : s0 < 256) (hs1 : s1 < 256) (hs2 : s2 < 256) (hs3 : s3 < 256) (hs4 : s4 < 256) (hq : q < 256) (hm : l.length = m) (hmc : m ≤ c) (hs : Sl w w.heap.size A (bys l)) (h20 : m ≤ 20) :
    Calls Try.prog 6 #[.agg #[.int .u64 n0, .int .u64 n1, .int .u64 n2, .int .u64 n3, .int .u64 n4], .agg #[.int .u8 s0, .int .u8 s1, .int .u8 s2, .int .u8 s3, .int .u8 s4], .int .u8 q, .slice A m c] w fun e w' => e = .returned (.bool true) ∧ Below w.heap.size w w' := by
  obtain ⟨V, hV⟩ : ∃ V, V = ((w.alloc (.cells #[.int .u64 n0, .int .u64 n1, .int .u64 n2, .int .u64 n3, .int .u64 n4] 44)).alloc (.cells #[.int .u8 s0, .int .u8 s1, .int .u8 s2, .int .u8 s3, .int .u8 s4] 45)) := ⟨_, rfl⟩
  have HV := hid hV
  have HVS := hid (show V.heap.size = w.heap.size + 2 by rw [hV]; simp)
  have HVB := hid (show Below w.heap.size w V by rw [hV]; exact below_go (below_new w _ _) (below_new _ _ _))
  have HC := hid (show ∀ k : Nat, k < 5 → ∃ (z u : Nat), V.cell? ⟨w.heap.size, k, none⟩ = some (.int .u64 z) ∧ V.cell? ⟨w.heap.size + 1, k, none⟩ = some (.int .u8 u) ∧ z < 18446744073709551616 ∧ u < 256 by
    intro k hk
    rw [hV]
    rcases (show k = 0 ∨ k = 1 ∨ k = 2 ∨ k = 3 ∨ k = 4 by omega) with rfl | rfl | rfl | rfl | rfl
    · exact ⟨n0, s0, by simp [go_sem], by simp [go_sem], hn0, hs0⟩
    · exact ⟨n1, s1, by simp [go_sem], by simp [go_sem], hn1, hs1⟩
    · exact ⟨n2, s2, by simp [go_sem], by simp [go_sem], hn2, hs2⟩
    · exact ⟨n3, s3, by simp [go_sem], by simp [go_sem], hn3, hs3⟩
    · exact ⟨n4, s4, by simp [go_sem], by simp [go_sem], hn4, hs4⟩)
  have HM := hid hm
  have HMC := hid hmc
  have HS := hid hs
  have HQ := hid hq
  clear hV hn0 hn1 hn2 hn3 hn4 hs0 hs1 hs2 hs3 hs4 hm hmc hs hq
  go_enter Try.func6, Try.ntmps6
  go_wp2_with fail
  simp only [← HV.out]
  go_loopw [9, 10] (fun v i wr => ∃ (k j : Nat) (A : Option Addr) (c : Nat) (lb : List UInt8), k ≤ 5 ∧ v = .slice A j c ∧ i = .int .i64 k ∧ j = lb.length ∧ j ≤ 10 * k ∧ wr.ownsRow w.heap.size 5 1 (.slice A j c) j (bys lb) ∧ Below V.heap.size V wr) (fun _ i _ => 5 - (intOf i).toNat)
  case atStart => exact ⟨0, 0, none, 0, [], by omega, rfl, rfl, rfl, by omega, World.ownsRow_nil _ _ _ _, Below.refl _ _⟩
  case round =>
    obtain ⟨k, j, A1, c1, lb, hk, rfl, rfl, hj, hjk, ho, hb⟩ := hrel
    have HJ := hid hj
    have HO := hid ho
    have HB := hid hb
    clear hj ho hb
    by_cases hlt : k < 5
    · obtain ⟨z, u, hz, hu, hlz, hlu⟩ := HC.out k hlt
      have hz' := (HB.out.cell (p := ⟨w.heap.size, k, none⟩) (by rw [HVS.out]; simp)).trans hz
      have hu' := (HB.out.cell (p := ⟨w.heap.size + 1, k, none⟩) (by rw [HVS.out]; simp)).trans hu
      clear hz hu
      obtain ⟨y, hy⟩ : ∃ y, y = u % 70 := ⟨_, rfl⟩
      have hr1 : (u : Int).tmod 70 = (y : Int) := by rw [hy]; rfl
      have hy70 : y < 70 := by omega
      clear hy
      have HPy := hid (rput_any A1 j c1 _ y lb wr HJ.out.symm (Sl.of_own HO.out) (Nat.le_refl _) (by omega) (by omega))
      have HPz := hid (rput_any A1 j c1 _ z lb wr HJ.out.symm (Sl.of_own HO.out) (Nat.le_refl _) (by omega) (by omega))
      go_wp2_with fail
      · refine HPz.out.mono ?_
        rintro e w1 ⟨A2, c2, rfl, ho2, hb2⟩
        have HB2 := hid (HB.out.trans (hb2.mono HB.out.size))
        have HO2 := hid (own_base ho2 (Nat.le_trans HVB.out.size HB.out.size))
        have hl10 := enc_len10 z (by omega)
        clear ho2 hb2
        go_wp2
        go_roundw
        case rel => exact ⟨k + 1, j + (enc z).length, A2, c2, lb ++ enc z, by omega, rfl, by go_num, by simp [HJ.out], by omega, HO2.out, HB2.out⟩
        case measure => simp [intOf]; omega
      · refine HPy.out.mono ?_
        rintro e w1 ⟨A2, c2, rfl, ho2, hb2⟩
        have HB2 := hid (HB.out.trans (hb2.mono HB.out.size))
        have HO2 := hid (own_base ho2 (Nat.le_trans HVB.out.size HB.out.size))
        have hl10 := enc_len10 y (by omega)
        clear ho2 hb2
        go_wp2
        go_roundw
        case rel => exact ⟨k + 1, j + (enc y).length, A2, c2, lb ++ enc y, by omega, rfl, by go_num, by simp [HJ.out], by omega, HO2.out, HB2.out⟩
        case measure => simp [intOf]; omega
    · obtain rfl : k = 5 := by omega
      clear hk hlt
      go_wp2_with fail
      refine (awake_any _).mono ?_
      rintro e w1 ⟨rfl, hb1⟩
      have HB1 := hid (below_go HB.out hb1)
      have HO1 := hid (own_below HO.out hb1)
      clear hb1
      go_wp2_with fail
      refine (same_any A1 j c1 lb w1 HJ.out.symm (own_le HO1.out) (Sl.of_own HO1.out) (by omega)).mono ?_
      rintro e w2 ⟨rfl, hb2⟩
      have HB2 := hid (below_go HB1.out hb2)
      have HO2 := hid (own_below HO1.out hb2)
      clear hb2
      have HB3 := hid (below_go HB2.out (below_new w2 #[] 5))
      have HE3 := hid (own_empty w2 5 w2.heap.size (Nat.le_refl _))
      have HO3 := hid (Sl.of_own (own_below HO2.out (below_new w2 #[] 5)))
      go_wp2_with (at_builtin; refine wp_app8g (by rfl) (.tmp 43) (.tmp 44) rfl w2.heap.size (some ⟨w2.heap.size, 0, none⟩) 0 0 [] rfl HE3.out A1 _ j c1 lb rfl HJ.out.symm HO3.out j (by omega) (by omega) (by simp) ?_)
      intro A4 c4 w4 ho4 hg4
      have HB4 := hid (HB3.out.grown hg4 HB3.out.size (fun k hk => Nat.le_trans HB2.out.size (own_lt HE3.out k hk)))
      have HO4 := hid ho4
      have HZ4 := hid (show w2.heap.size ≤ w4.heap.size by have := hg4.size; simp at this; omega)
      have HW4 := hid (HVB.out.trans (HB4.out.mono HVB.out.size))
      have HS4 := hid (HS.out.go HW4.out)
      clear ho4 hg4 HO3 HE3
      go_wp2_with (at_builtin; refine wp_app8g (by rfl) (.tmp 45) (.tmp 46) rfl w2.heap.size A4 j c4 lb rfl HO4.out A _ m c l rfl HM.out HS4.out (j + m) rfl (by omega) HZ4.out ?_)
      intro A5 c5 w5 ho5 hg5
      have HB5 := hid (HW4.out.grown hg5 HW4.out.size (fun k hk => by have := own_lt HO4.out k hk; have := HB2.out.size; have := HVB.out.size; omega))
      have HO5 := hid ho5
      clear ho5 hg5
      go_wp2_with fail
      refine (same_any A5 (j + m) c5 (lb ++ l) w5 (by simp [HJ.out, HM.out]) (own_le HO5.out) (Sl.of_own HO5.out) (by omega)).mono ?_
      rintro e w6 ⟨rfl, hb6⟩
      have HB6 := hid (below_go HB5.out hb6)
      clear hb6
      go_wp2
      go_ret
      exact ⟨rfl, HB6.out⟩

theorem numbers_no (v1 v2 : Value) (q : Nat) (A : Option Addr) (m c : Nat) (cs1 cs2 : Array Value) (h1 : v1 = .agg cs1) (h2 : v2 = .agg cs2) (w : World) (h : 20 < m) :
    Calls Try.prog 6 #[v1, v2, .int .u8 q, .slice A m c] w fun e w' => e = .returned (.bool true) ∧ Below w.heap.size w w' := by
  subst h1 h2
  go_enter Try.func6, Try.ntmps6
  go_wp2_with fail
  refine (awake_any _).mono ?_
  rintro e w1 ⟨rfl, hb1⟩
  have HB := hid (below_go (below_go (below_new w _ _) (below_new _ _ _)) hb1)
  clear hb1
  go_wp2
  go_ret
  exact ⟨rfl, HB.out⟩
theorem u_five {k : IntKind} {B : Nat} (zs : List Int) (h5 : zs.length = 5) (hw : ∀ z ∈ zs, 0 ≤ z ∧ z < (B : Int)) :
    ∃ a b c d e : Nat, (a < B ∧ b < B ∧ c < B ∧ d < B ∧ e < B) ∧ (zs.map (Value.int k)).toArray = #[.int k a, .int k b, .int k c, .int k d, .int k e] := by
  match zs, h5 with
  | [a, b, c, d, e], _ =>
    obtain ⟨⟨a0, a1⟩, ⟨b0, b1⟩, ⟨c0, c1⟩, ⟨d0, d1⟩, ⟨e0, e1⟩⟩ : (0 ≤ a ∧ a < (B : Int)) ∧ (0 ≤ b ∧ b < (B : Int)) ∧ (0 ≤ c ∧ c < (B : Int)) ∧ (0 ≤ d ∧ d < (B : Int)) ∧ (0 ≤ e ∧ e < (B : Int)) :=
      ⟨hw a (by simp), hw b (by simp), hw c (by simp), hw d (by simp), hw e (by simp)⟩
    obtain ⟨a, rfl⟩ := Int.eq_ofNat_of_zero_le a0
    obtain ⟨b, rfl⟩ := Int.eq_ofNat_of_zero_le b0
    obtain ⟨c, rfl⟩ := Int.eq_ofNat_of_zero_le c0
    obtain ⟨d, rfl⟩ := Int.eq_ofNat_of_zero_le d0
    obtain ⟨e, rfl⟩ := Int.eq_ofNat_of_zero_le e0
    exact ⟨a, b, c, d, e, ⟨by omega, by omega, by omega, by omega, by omega⟩, rfl⟩
theorem numbers_walk (zs us : List Int) (hz5 : zs.length = 5) (hu5 : us.length = 5) (hzw : ∀ z ∈ zs, (Lit.int .u64 z).wf = true) (huw : ∀ z ∈ us, (Lit.int .u8 z).wf = true) (q : Nat) (hq : q < 256) (A : Option Addr) (m c : Nat) (l : List UInt8) (w : World) (hm : l.length = m) (hmc : m ≤ c) (hs : Sl w w.heap.size A (bys l)) :
    Calls Try.prog 6 #[.agg (zs.map (Value.int .u64)).toArray, .agg (us.map (Value.int .u8)).toArray, .int .u8 q, .slice A m c] w fun e w' => e = .returned (.bool true) ∧ Below w.heap.size w w' := by
  by_cases h : m ≤ 20
  · obtain ⟨a, b, c', d, e, ⟨h1, h2, h3, h4, h5⟩, hh⟩ := u_five (k := .u64) (B := 18446744073709551616) zs hz5 (fun z hz => by have := hzw z hz; simp [Lit.wf, IntKind.min, IntKind.max, IntKind.signed, IntKind.bits] at this; omega)
    obtain ⟨a', b', c'', d', e', ⟨k1, k2, k3, k4, k5⟩, kk⟩ := u_five (k := .u8) (B := 256) us hu5 (fun z hz => by have := huw z hz; simp [Lit.wf, IntKind.min, IntKind.max, IntKind.signed, IntKind.bits] at this; omega)
    rw [hh, kk]
    exact numbers_yes a b c' d e a' b' c'' d' e' q A m c l w h1 h2 h3 h4 h5 k1 k2 k3 k4 k5 hq hm hmc hs h
  · exact numbers_no _ _ q A m c _ _ rfl rfl w (by omega)
end Go.Proofs.Ytphgngpdmkcnkaa
