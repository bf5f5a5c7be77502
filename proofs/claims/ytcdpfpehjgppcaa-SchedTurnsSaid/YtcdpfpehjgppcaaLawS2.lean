/-
  sched.Turns; SchedTurns walked.
-/
import Derived.Test.YtcdpfpehjgppcaaLawS1
namespace Go.Proofs.Ytcdpfpehjgppcaa
open Go.RowKit
set_option linter.unusedSimpArgs false

/-- What Turns chooses. -/
def turnsL (zs : List Int) (qs : List Int) : List Int := qs.map fun q => (pickL zs q.toNat).1

set_option maxHeartbeats 1000000 in
theorem turns_any (A : Option Addr) (n c : Nat) (zs : List Int) (A2 : Option Addr) (n2 c2 : Nat) (qs : List Int) (w : World) (hn : zs.length = n) (hs : Sl w w.heap.size A (nums .i64 zs)) (hm : n ≤ 100000) (hn2 : qs.length = n2) (hs2 : Sl w w.heap.size A2 (nums .u64 qs)) (hq : ∀ q ∈ qs, 0 ≤ q) (hm2 : n2 ≤ 100000) :
    Calls Try.prog 14 #[.slice A n c, .slice A2 n2 c2] w (OwnInts w (turnsL zs qs) n2) := by
  have HP := hid (fun (q : Nat) (w' : World) (hb : Below w.heap.size w w') => pick_any A n c zs q w' hn (hs.go hb) hm)
  have HN2 := hid hn2
  have HS2 := hid hs2
  have HQ := hid hq
  clear hn hs hn2 hs2 hq
  go_enter Try.func14, Try.ntmps14
  have HT := hid (show ∀ k (hk : k < n2), ∃ q : Nat, qs[k]'(by rw [HN2.out]; exact hk) = (q : Int) ∧ turnsL zs (qs.take (k + 1)) = turnsL zs (qs.take k) ++ [(pickL zs q).1] by
    intro k hk
    obtain ⟨q, hq⟩ := Int.eq_ofNat_of_zero_le (HQ.out _ (List.getElem_mem (by rw [HN2.out]; exact hk)))
    refine ⟨q, hq, ?_⟩
    rw [List.take_succ_eq_append_getElem (by rw [HN2.out]; exact hk), hq]
    simp [turnsL])
  go_wp2_with fail
  go_loopw [5, 12] (fun v i wr => ∃ (k : Nat) (A1 : Option Addr) (c1 : Nat), k ≤ n2 ∧ v = .slice A1 k c1 ∧ i = .int .i64 k ∧ wr.ownsRow w.heap.size 3 1 (.slice A1 k c1) k (nums .i64 (turnsL zs (qs.take k))) ∧ Below w.heap.size w wr) (fun _ i _ => n2 - (intOf i).toNat)
  case atStart => exact ⟨0, none, 0, Nat.zero_le _, rfl, rfl, World.ownsRow_nil _ _ _ _, Below.refl _ _⟩
  case round =>
    obtain ⟨k, A1, c1, hk, rfl, rfl, ho, hb⟩ := hrel
    have HO := hid ho
    have HB := hid hb
    clear ho hb
    by_cases hlt : k < n2
    · obtain ⟨q, hq, ht⟩ := HT.out k hlt
      have HTT := hid ht
      obtain ⟨b, off, hA, hbl, hcell⟩ := HS2.out.num (i := k) (by rw [HN2.out]; exact hlt)
      have hc' := (HB.out.cell (p := ⟨b, off + k, none⟩) hbl).trans hcell
      rw [hq] at hc'
      clear hcell hq ht
      subst hA
      have HC := hid (HP.out q wr HB.out)
      obtain ⟨⟨r1, r2⟩, hr⟩ : ∃ r, r = pickL zs q := ⟨_, rfl⟩
      rw [← hr] at HC HTT
      clear hr
      unfold retP at HC
      go_wp2_with fail
      clear hc'
      refine HC.out.mono ?_
      rintro e w1 ⟨rfl, hb1⟩
      have HB1 := hid (below_go HB.out hb1)
      have HO2 := hid (own_below (own_below HO.out hb1) (below_new w1 #[.int .i64 r1] 3))
      clear hb1
      go_wp2_with (at_builtin; refine wp_app1 Try.underlying22 info_int (by rfl) (by decide) (by rfl) (.tmp 22) (.tmp 24) rfl w.heap.size A1 k c1 (nums .i64 (turnsL zs (qs.take k))) rfl HO2.out (some ⟨w1.heap.size, 0, none⟩) _ 1 1 [.int .i64 r1] rfl rfl (Sl.new w1 #[.int .i64 r1] 3 (0, 0)) (by simp [Value.oneCell']) (k + 1) rfl (by omega) (by have := HB1.out.size; simp; omega) ?_)
      intro A4 c4 w4 ho4 hg4 _
      have HB4 := hid ((HB1.out.alloc HB1.out.size (.cells #[.int .i64 r1] 3)).grown hg4 (by have := HB1.out.size; simp; omega) (own_lt HO2.out))
      have HO4 := hid (show w4.ownsRow w.heap.size 3 1 (.slice A4 (k + 1) c4) (k + 1) (nums .i64 (turnsL zs (qs.take (k + 1)))) by rw [HTT.out, nums_append]; exact ho4)
      clear ho4 hg4
      go_wp2
      go_roundw
      case rel => exact ⟨k + 1, A4, c4, by omega, rfl, by go_num, HO4.out, HB4.out⟩
      case measure => simp [intOf]; omega
    · obtain rfl : k = n2 := by omega
      have HTQ := hid (show qs.take k = qs from List.take_of_length_le (by rw [HN2.out]; exact Nat.le_refl _))
      go_wp2
      go_ret
      exact ⟨A1, c1, rfl, by have := HO.out; rw [HTQ.out] at this; exact this, HB.out⟩

theorem turns_no (A : Option Addr) (n c : Nat) (A2 : Option Addr) (n2 c2 : Nat) (w : World) (h : 40 < n2) :
    Calls Try.prog 6 #[.slice A n c, .slice A2 n2 c2] w fun e w' => e = .returned (.bool true) ∧ Below w.heap.size w w' := by
  go_enter Try.func6, Try.ntmps6
  go_wp2_with fail
  refine (awake_any _).mono ?_
  rintro e w1 ⟨rfl, hb1⟩
  go_wp2
  go_ret
  exact ⟨rfl, hb1⟩

set_option maxHeartbeats 1000000 in
theorem turns_yes (A : Option Addr) (n c : Nat) (l : List UInt8) (A2 : Option Addr) (n2 c2 : Nat) (qs : List Int) (w : World) (hn : l.length = n) (hs : Sl w w.heap.size A (bys l)) (hn2 : qs.length = n2) (hs2 : Sl w w.heap.size A2 (nums .u64 qs)) (hq : ∀ q ∈ qs, 0 ≤ q) (h : n2 ≤ 40) :
    Calls Try.prog 6 #[.slice A n c, .slice A2 n2 c2] w fun e w' => e = .returned (.bool true) ∧ Below w.heap.size w w' := by
  have HST := hid (states_any A n c l w hn hs)
  have HSL := hid (stL_len l)
  have HN2 := hid hn2
  have HS2 := hid hs2
  have HQ := hid hq
  obtain ⟨ys, hys⟩ : ∃ ys, ys = stL l := ⟨_, rfl⟩
  rw [← hys] at HST HSL
  obtain ⟨k0, hk⟩ : ∃ k, k = ys.length := ⟨_, rfl⟩
  have HK := hid hk
  rw [← hk] at HSL HST
  have hk70 := HSL.out
  clear hn hs hn2 hs2 hq hys hk
  go_enter Try.func6, Try.ntmps6
  go_wp2_with fail
  refine HST.out.mono ?_
  rintro e w1 ⟨A3, c3, rfl, ho3, hb3⟩
  have HO3 := hid ho3
  have HB3 := hid hb3
  have HT3 := hid (turns_any A3 k0 c3 ys A2 n2 c2 qs w1 HK.out.symm (Sl.of_own ho3) (by omega) HN2.out (HS2.out.go hb3) HQ.out (by omega))
  clear ho3 hb3
  go_wp2_with fail
  refine HT3.out.mono ?_
  rintro e w2 ⟨A4, c4, rfl, ho4, hb4⟩
  have HO4 := hid ho4
  have HP4 := hid (own_below HO3.out hb4)
  have HB4 := hid (below_go HB3.out hb4)
  clear ho4 hb4
  go_wp2_with fail
  go_loopw [26] (fun i wr => ∃ k : Nat, k ≤ n2 ∧ i = .int .i64 k ∧ Below w2.heap.size w2 wr) (fun i _ => n2 - (intOf i).toNat)
  case atStart => exact ⟨0, Nat.zero_le _, rfl, Below.refl _ _⟩
  case round =>
    obtain ⟨k, hk, rfl, hb⟩ := hrel
    have HB := hid hb
    clear hb
    by_cases hlt : k < n2
    · have hkq : k < qs.length := by rw [HN2.out]; exact hlt
      obtain ⟨q, hq⟩ := Int.eq_ofNat_of_zero_le (HQ.out _ (List.getElem_mem hkq))
      obtain ⟨b, off, hA, hbl, hcell⟩ := (HS2.out.go HB4.out).num (i := k) hkq
      have hc' := (HB.out.cell (p := ⟨b, off + k, none⟩) hbl).trans hcell
      rw [hq] at hc'
      have hkt : k < (turnsL ys qs).length := by simp [turnsL]; exact hkq
      obtain ⟨b', off', hA', hbl', hcell'⟩ := (Sl.of_own HO4.out).num (i := k) hkt
      have hd' := (HB.out.cell (p := ⟨b', off' + k, none⟩) hbl').trans hcell'
      have he : (turnsL ys qs)[k]'hkt = (pickL ys q).1 := by simp [turnsL, hq]
      rw [he] at hd'
      clear hcell hcell' he hq hkt
      subst hA hA'
      have HC := hid (rpick_any A3 k0 c3 ys q wr HK.out.symm ((Sl.of_own HP4.out).go HB.out) (by omega))
      obtain ⟨⟨r1, r2⟩, hr⟩ : ∃ r, r = pickL ys q := ⟨_, rfl⟩
      rw [← hr] at HC hd'
      clear hr
      unfold retP at HC
      have HD := hid hd'
      clear hd'
      go_wp2_with fail
      clear hc'
      refine HC.out.mono ?_
      rintro e w3 ⟨rfl, hb3⟩
      have hd2 := (hb3.cell (p := ⟨b', off' + k, none⟩) (Nat.lt_of_lt_of_le hbl' HB.out.size)).trans HD.out
      have HB5 := hid (below_go HB.out hb3)
      clear hb3
      go_wp2
      go_roundw
      case rel => exact ⟨k + 1, by omega, by go_num, HB5.out⟩
      case measure => simp [intOf]; omega
    · obtain rfl : k = n2 := by omega
      go_wp2_with fail
      refine (awake_any _).mono ?_
      rintro e w3 ⟨rfl, hb3⟩
      have HB5 := hid (below_go (below_go HB4.out HB.out) hb3)
      clear hb3
      go_wp2
      go_ret
      exact ⟨rfl, HB5.out⟩
theorem turns_walk (A : Option Addr) (n c : Nat) (l : List UInt8) (A2 : Option Addr) (n2 c2 : Nat) (qs : List Int) (w : World) (hn : l.length = n) (hs : Sl w w.heap.size A (bys l)) (hn2 : qs.length = n2) (hs2 : Sl w w.heap.size A2 (nums .u64 qs)) (hq : ∀ q ∈ qs, (Lit.int .u64 q).wf = true) :
    Calls Try.prog 6 #[.slice A n c, .slice A2 n2 c2] w fun e w' => e = .returned (.bool true) ∧ Below w.heap.size w w' := by
  by_cases h : n2 ≤ 40
  · refine turns_yes A n c l A2 n2 c2 qs w hn hs hn2 hs2 (fun q hqq => ?_) h
    have := hq q hqq
    simp [Lit.wf, IntKind.min, IntKind.max, IntKind.signed, IntKind.bits] at this
    omega
  · exact turns_no A n c A2 n2 c2 w (by omega)
end Go.Proofs.Ytcdpfpehjgppcaa
