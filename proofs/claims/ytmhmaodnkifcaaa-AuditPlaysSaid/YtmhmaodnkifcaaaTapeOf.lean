/-
  The tape of the laws: Of.
-/
import Derived.Test.YtmhmaodnkifcaaaTape
namespace Go.Proofs.Ytmhmaodnkifcaaa
open Go.RowKit

theorem info_u16 : (Try.prog.info? 23).map (fun i => (i.zero, i.size, i.bytes)) = some (some (.int .u16 0), 1, 2) := by kernel_rfl

theorem tape_made (A : Option Addr) (c N : Nat) (zs : List Int) (w w1 : World) (hz : ∀ z ∈ zs, 0 ≤ z ∧ z < 65536) (hl : zs.length = N) (ho : w1.ownsRow w.heap.size 23 1 (.slice A N c) N (nums .u16 zs)) (hb : Below w.heap.size w w1) :
    Tp (w1.alloc (.cells #[.slice A N c, .int .i64 0] 80)) w.heap.size (w1.alloc (.cells #[.slice A N c, .int .i64 0] 80)).heap.size w1.heap.size N 0 := by
  have hcm : c ≤ maxLen := by
    rcases ho.2 with ⟨h, _⟩ | ⟨g, cap, cur, h, _, _, _, h2, _⟩
    · injection h with _ _ h3; omega
    · injection h with _ _ h3; omega
  refine ⟨A, c, heap_alloc_new w1 _, own_le ho, hcm, hb.size, by simp, Nat.le_refl _, fun k hk => ?_⟩
  obtain ⟨b, off, hA, hbl, hc⟩ := (Sl.of_own ho).num (i := k) (by omega)
  obtain ⟨h0, h1⟩ := hz zs[k] (List.getElem_mem _)
  obtain ⟨z, hzz⟩ := Int.eq_ofNat_of_zero_le h0
  have hlo := own_lt ho b (by rw [hA]; rfl)
  rw [hzz] at hc h1
  exact ⟨b, off, z, hA, by omega, hlo, by simp; omega, ((below_new w1 _ _).cell (p := ⟨b, off + k, none⟩) hbl).trans hc, by omega⟩

set_option maxHeartbeats 1000000 in
theorem of_any (A : Option Addr) (n c most : Nat) (zs : List Int) (w : World) (hz : ∀ z ∈ zs, 0 ≤ z ∧ z < 65536) (hn : zs.length = n) (hc : n ≤ c) (hs : Sl w w.heap.size A (nums .u16 zs)) (hm : most ≤ 100000) :
    Calls Try.prog 12 #[.slice A n c, .int .i64 most] w fun e w' => ∃ g N, e = .returned (.pointer (some ⟨g, 0, none⟩)) ∧ N ≤ most ∧ Tp w' w.heap.size w'.heap.size g N 0 ∧ Below w.heap.size w w' := by
  have HE := hid (World.ownsRow_made (base := w.heap.size) (e := 23) (size := 1) w #[] 0 (Nat.le_refl _) (Nat.zero_le _) (by simp))
  have HZ := hid hz
  clear hz
  by_cases h : most < n
  · obtain ⟨ys, hys⟩ : ∃ ys, ys = zs.take most := ⟨_, rfl⟩
    have HY := hid (show ∀ z ∈ ys, 0 ≤ z ∧ z < 65536 by rw [hys]; exact fun z hz => HZ.out z (List.mem_of_mem_take hz))
    have HYL := hid (show ys.length = most by rw [hys, List.length_take]; omega)
    have HS := hid (show Sl w w.heap.size A (nums .u16 ys) by rw [hys, nums_take]; exact hs.take most)
    have HS1 := hid (HS.out.below (below_new w #[] 23))
    clear hys hs hn HZ
    go_enter Try.func12, Try.ntmps12
    go_wp2_with (at_builtin; refine wp_app1 Try.underlying22 info_u16 (by rfl) (by decide) (by rfl) (.tmp 12) (.tmp 13) rfl w.heap.size (some ⟨w.heap.size, 0, none⟩) 0 0 [] rfl HE.out A _ most c (nums .u16 ys) rfl (by rw [nums_length]; exact HYL.out) HS1.out (nums_one _ _) most (by omega) (by omega) (by simp) ?_)
    intro A4 c4 w4 ho4 hg4 _
    have HB4 := hid ((below_new w #[] 23).grown hg4 (by simp) (own_lt HE.out))
    have HT := hid (tape_made A4 c4 most ys w w4 HY.out HYL.out (by simpa using ho4) HB4.out)
    clear ho4 hg4
    go_wp2
    go_ret
    exact ⟨w4.heap.size, most, rfl, Nat.le_refl _, HT.out, below_go HB4.out (below_new w4 _ _)⟩
  · have HYL := hid hn
    have HS1 := hid (hs.below (below_new w #[] 23))
    clear hs hn
    go_enter Try.func12, Try.ntmps12
    go_wp2_with (at_builtin; refine wp_app1 Try.underlying22 info_u16 (by rfl) (by decide) (by rfl) (.tmp 12) (.tmp 13) rfl w.heap.size (some ⟨w.heap.size, 0, none⟩) 0 0 [] rfl HE.out A _ n c (nums .u16 zs) rfl (by rw [nums_length]; exact HYL.out) HS1.out (nums_one _ _) n (by omega) (by omega) (by simp) ?_)
    intro A4 c4 w4 ho4 hg4 _
    have HB4 := hid ((below_new w #[] 23).grown hg4 (by simp) (own_lt HE.out))
    have HT := hid (tape_made A4 c4 n zs w w4 HZ.out HYL.out (by simpa using ho4) HB4.out)
    clear ho4 hg4
    go_wp2
    go_ret
    exact ⟨w4.heap.size, n, rfl, by omega, HT.out, below_go HB4.out (below_new w4 _ _)⟩
end Go.Proofs.Ytmhmaodnkifcaaa
