/-
  The reference's Runnable and Pick; the law's states, awake.
-/
import Derived.Test.YtcdpfpehjgppcaaSchC
namespace Go.Proofs.Ytcdpfpehjgppcaa
open Go.RowKit

set_option maxHeartbeats 1000000 in
theorem rrun_any (A : Option Addr) (n c : Nat) (zs : List Int) (w : World) (hn : zs.length = n) (hs : Sl w w.heap.size A (nums .i64 zs)) (hm : n ≤ 100000) :
    Calls Try.prog 13 #[.slice A n c] w (OwnInts w (rl zs zs.length) (rl zs zs.length).length) := by
  have HN := hid hn
  have HS := hid hs
  clear hn hs
  go_enter Try.func13, Try.ntmps13
  go_wp2_with fail
  go_loopw [3, 4] (fun v i wr => ∃ (k j : Nat) (A1 : Option Addr) (c1 : Nat), k ≤ n ∧ j ≤ k ∧ v = .slice A1 j c1 ∧ i = .int .i64 k ∧ j = (rl zs k).length ∧ wr.ownsRow w.heap.size 3 1 (.slice A1 j c1) j (nums .i64 (rl zs k)) ∧ Below w.heap.size w wr) (fun _ i _ => n - (intOf i).toNat)
  case atStart => exact ⟨0, 0, none, 0, Nat.zero_le _, by omega, rfl, rfl, rfl, World.ownsRow_nil _ _ _ _, Below.refl _ _⟩
  case round =>
    obtain ⟨k, j, A1, c1, hk, hjk, rfl, rfl, hj, ho, hb⟩ := hrel
    have HJ := hid hj
    have HO := hid ho
    have HB := hid hb
    clear hj ho hb
    by_cases hlt : k < n
    · obtain ⟨b, off, hA, hbl, hcell⟩ := HS.out.num (i := k) (by rw [HN.out]; exact hlt)
      have hc' := (HB.out.cell (p := ⟨b, off + k, none⟩) hbl).trans hcell
      have hg : zs[k]?.getD 0 = zs[k]'(by rw [HN.out]; exact hlt) := by simp [show k < zs.length by rw [HN.out]; exact hlt]
      subst hA
      obtain ⟨z, hz⟩ : ∃ z, z = zs[k]'(by rw [HN.out]; exact hlt) := ⟨_, rfl⟩
      rw [← hz] at hg hc'
      clear hz hcell
      by_cases h1 : z = 1
      · have HR := hid (rl_hit (k := k) (hg.trans h1))
        subst h1
        have hw : wrap64 ((k : Int) + 1) = (k : Int) + 1 := by unfold wrap64; omega
        have HO2 := hid (own_below HO.out (below_new wr #[.int .i64 ((k : Int) + 1)] 3))
        clear hg
        go_wp2_with (at_builtin; refine wp_app1 Try.underlying22 info_int (by rfl) (by decide) (by rfl) (.tmp 16) (.tmp 19) rfl w.heap.size A1 j c1 (nums .i64 (rl zs k)) rfl HO2.out (some ⟨wr.heap.size, 0, none⟩) _ 1 1 [.int .i64 ((k : Int) + 1)] rfl rfl (Sl.new wr #[.int .i64 ((k : Int) + 1)] 3 (0, 0)) (by simp [Value.oneCell']) (j + 1) rfl (by omega) (by have := HB.out.size; simp; omega) ?_)
        intro A4 c4 w4 ho4 hg4 _
        have HB4 := hid ((HB.out.alloc HB.out.size (.cells #[.int .i64 ((k : Int) + 1)] 3)).grown hg4 (by have := HB.out.size; simp; omega) (own_lt HO2.out))
        have HO4 := hid (show w4.ownsRow w.heap.size 3 1 (.slice A4 (j + 1) c4) (j + 1) (nums .i64 (rl zs (k + 1))) by rw [HR.out, nums_append]; exact ho4)
        clear ho4 hg4
        go_wp2
        go_roundw
        case rel => exact ⟨k + 1, j + 1, A4, c4, by omega, by omega, rfl, by go_num, by rw [HR.out, List.length_append, ← HJ.out]; rfl, HO4.out, HB4.out⟩
        case measure => simp [intOf]; omega
      · have HR := hid (rl_miss (k := k) (fun e => h1 (hg.symm.trans e)))
        have h1' : (z == 1) = false := by simpa using h1
        clear hg
        go_wp2
        go_roundw
        case rel => exact ⟨k + 1, j, A1, c1, by omega, by omega, rfl, by go_num, by rw [HR.out, ← HJ.out], by rw [HR.out]; exact HO.out, HB.out⟩
        case measure => simp [intOf]; omega
    · obtain rfl : k = n := by omega
      go_wp2
      go_ret
      refine ⟨A1, c1, ?_, ?_, HB.out⟩
      · rw [HN.out, ← HJ.out]
        rfl
      · rw [HN.out, ← HJ.out]; exact HO.out

set_option maxHeartbeats 1000000 in
theorem rpick_any (A : Option Addr) (n c : Nat) (zs : List Int) (q : Nat) (w : World) (hn : zs.length = n) (hs : Sl w w.heap.size A (nums .i64 zs)) (hm : n ≤ 100000) :
    Calls Try.prog 9 #[.slice A n c, .int .u64 q] w fun e w' => e = .returned (retP (pickL zs q)) ∧ Below w.heap.size w w' := by
  have HC := hid (rrun_any A n c zs w hn hs hm)
  have HM := hid (show zs.length ≤ 100000 by omega)
  have HL := hid (rl_len zs zs.length)
  unfold pickL
  obtain ⟨ys, hys⟩ : ∃ ys, ys = rl zs zs.length := ⟨_, rfl⟩
  rw [← hys] at HL HC ⊢
  obtain ⟨m, hm'⟩ : ∃ m, m = ys.length := ⟨_, rfl⟩
  rw [← hm']
  rw [← hm'] at HC
  have HMM := hid hm'
  have hm1 : m ≤ 100000 := by have := HL.out; have := HM.out; omega
  obtain ⟨r, hr⟩ : ∃ r : Int × Bool, r = if m = 0 then (0, false) else (ys[q % m]?.getD 0, true) := ⟨_, rfl⟩
  rw [← hr]
  have HRR := hid hr
  clear hn hs hys hm' hr
  go_enter Try.func9, Try.ntmps9
  go_wp2_with fail
  refine HC.out.mono ?_
  rintro e w2 ⟨A2, c2, rfl, ho2, hb2⟩
  have HO2 := hid ho2
  have HB2 := hid hb2
  clear ho2 hb2
  by_cases h0 : m = 0
  · have HR2 := hid (show r = (0, false) by rw [HRR.out, if_pos h0])
    subst h0
    go_wp2
    go_ret2
    exact ⟨by rw [HR2.out]; rfl, HB2.out⟩
  · have h0' : ¬ (m : Int) = 0 := by omega
    have hq0 : ((m : Int) == 0) = false := by simpa using h0
    have HR2 := HRR.out
    rw [if_neg h0] at HR2
    obtain ⟨k, hk⟩ : ∃ k, k = q % m := ⟨_, rfl⟩
    have hkm : k < m := by rw [hk]; exact Nat.mod_lt _ (by omega)
    have hmod : (q : Int).tmod (m : Int) = (k : Int) := by rw [hk]; exact (Int.ofNat_tmod q m).symm
    rw [← hk] at HR2
    clear hk
    obtain ⟨b, off, hA, _, hcell⟩ := (Sl.of_own HO2.out).num (i := k) (by rw [← HMM.out]; exact hkm)
    subst hA
    have hg : ys[k]?.getD 0 = ys[k]'(by rw [← HMM.out]; exact hkm) := by simp [show k < ys.length by rw [← HMM.out]; exact hkm]
    rw [hg] at HR2
    clear hg
    obtain ⟨y, hy⟩ : ∃ y, y = ys[k]'(by rw [← HMM.out]; exact hkm) := ⟨_, rfl⟩
    rw [← hy] at hcell HR2
    have HR3 := hid HR2
    clear hy HR2
    go_wp2
    go_ret2
    exact ⟨by rw [HR3.out]; rfl, HB2.out⟩

/-- The states that the law makes of bytes. -/
def stL (l : List UInt8) : List Int := (l.take 70).map fun c => ((1 + c.toNat % 4 : Nat) : Int)
set_option maxHeartbeats 1000000 in
theorem states_any (A : Option Addr) (n c : Nat) (l : List UInt8) (w : World) (hn : l.length = n) (hs : Sl w w.heap.size A (bys l)) :
    Calls Try.prog 10 #[.slice A n c] w (OwnInts w (stL l) (stL l).length) := by
  have HN := hid hn
  have HS := hid hs
  clear hn hs
  go_enter Try.func10, Try.ntmps10
  have HYL := hid (show (stL l).length = min 70 n by rw [← HN.out]; simp [stL])
  obtain ⟨ys, hys⟩ : ∃ ys, ys = stL l := ⟨_, rfl⟩
  have HYG := hid (show ∀ k (hk : k < n), k < 70 → ∃ c : UInt8, l[k]? = some c ∧ ys[k]? = some ((1 + c.toNat % 4 : Nat) : Int) by
    intro k hk h70
    refine ⟨l[k]'(by rw [HN.out]; exact hk), by simp [show k < l.length by rw [HN.out]; exact hk], ?_⟩
    rw [hys]
    simp [stL, h70, show k < l.length by rw [HN.out]; exact hk])
  rw [← hys] at HYL ⊢
  clear hys
  go_wp2_with fail
  go_loopw [3, 4] (fun v i wr => ∃ (k : Nat) (A1 : Option Addr) (c1 : Nat), k ≤ n ∧ k ≤ 70 ∧ v = .slice A1 k c1 ∧ i = .int .i64 k ∧ wr.ownsRow w.heap.size 3 1 (.slice A1 k c1) k (nums .i64 (ys.take k)) ∧ Below w.heap.size w wr) (fun _ i _ => 70 - (intOf i).toNat)
  case atStart => exact ⟨0, none, 0, Nat.zero_le _, by omega, rfl, rfl, World.ownsRow_nil _ _ _ _, Below.refl _ _⟩
  case round =>
    obtain ⟨k, A1, c1, hk, hk70, rfl, rfl, ho, hb⟩ := hrel
    have HO := hid ho
    have HB := hid hb
    clear ho hb
    by_cases hlt : k < n
    · by_cases h70 : k < 70
      · obtain ⟨ch, hch, hych⟩ := HYG.out k hlt h70
        obtain ⟨b, off, hA, hbl, hcell⟩ := HS.out.byte (k := k) (by rw [HN.out]; exact hlt)
        have hc' := (HB.out.cell (p := ⟨b, off + k, none⟩) hbl).trans hcell
        have hle : l[k]'(by rw [HN.out]; exact hlt) = ch := by
          rw [List.getElem?_eq_getElem (by rw [HN.out]; exact hlt)] at hch
          exact Option.some.inj hch
        rw [hle] at hc'
        subst hA
        obtain ⟨q, hq⟩ : ∃ q, q = ch.toNat := ⟨_, rfl⟩
        have hq256 : q < 256 := by rw [hq]; exact u8_lt ch
        rw [← hq] at hc' hych
        obtain ⟨r, hr⟩ : ∃ r, r = q % 4 := ⟨_, rfl⟩
        have hmod : (q : Int).tmod 4 = (r : Int) := by rw [hr]; rfl
        have hr4 : r < 4 := by omega
        rw [← hr] at hych
        have HT := hid (show ys.take (k + 1) = ys.take k ++ [((1 + r : Nat) : Int)] by
          obtain ⟨hlk, he⟩ := List.getElem?_eq_some_iff.1 hych
          rw [List.take_succ_eq_append_getElem hlk, he])
        clear hch hle hq hr hcell hych
        have HO2 := hid (own_below HO.out (below_new wr #[.int .i64 (1 + (r : Int))] 3))
        go_wp2_with (at_builtin; refine wp_app1 Try.underlying22 info_int (by rfl) (by decide) (by rfl) (.tmp 15) (.tmp 23) rfl w.heap.size A1 k c1 (nums .i64 (ys.take k)) rfl HO2.out (some ⟨wr.heap.size, 0, none⟩) _ 1 1 [.int .i64 (1 + (r : Int))] rfl rfl (Sl.new wr #[.int .i64 (1 + (r : Int))] 3 (0, 0)) (by simp [Value.oneCell']) (k + 1) rfl (by omega) (by have := HB.out.size; simp; omega) ?_)
        intro A4 c4 w4 ho4 hg4 _
        have HB4 := hid ((HB.out.alloc HB.out.size (.cells #[.int .i64 (1 + (r : Int))] 3)).grown hg4 (by have := HB.out.size; simp; omega) (own_lt HO2.out))
        have HO4 := hid (show w4.ownsRow w.heap.size 3 1 (.slice A4 (k + 1) c4) (k + 1) (nums .i64 (ys.take (k + 1))) by rw [HT.out, nums_append]; exact ho4)
        clear ho4 hg4
        go_wp2
        go_roundw
        case rel => exact ⟨k + 1, A4, c4, by omega, by omega, rfl, by go_num, HO4.out, HB4.out⟩
        case measure => simp [intOf]; omega
      · obtain rfl : k = 70 := by omega
        have hyl : ys.length = 70 := by rw [HYL.out]; omega
        have HT := hid (show ys.take 70 = ys from List.take_of_length_le (by omega))
        have HYL2 := hid hyl
        clear hyl
        go_wp2
        go_ret
        exact ⟨A1, c1, by rw [HYL2.out]; rfl, by rw [HYL2.out]; have := HO.out; rw [HT.out] at this; exact this, HB.out⟩
    · obtain rfl : k = n := by omega
      have HYL2 := hid (show ys.length = k by rw [HYL.out]; omega)
      have HT := hid (show ys.take k = ys from List.take_of_length_le (by rw [HYL2.out]; exact Nat.le_refl _))
      go_wp2
      go_ret
      exact ⟨A1, c1, by rw [HYL2.out]; rfl, by rw [HYL2.out]; have := HO.out; rw [HT.out] at this; exact this, HB.out⟩
end Go.Proofs.Ytcdpfpehjgppcaa
