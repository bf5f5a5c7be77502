/-
  DigestVerify, walked.
-/
import Derived.Test.YtnjnlgpdkehdhaaDigV
namespace Go.Proofs.Ytnjnlgpdkehdhaa
open Go.RowKit

set_option maxHeartbeats 1000000 in
theorem verify_law (A A2 : Option Addr) (n c n2 c2 u v : Nat) (b : Bool) (vs : List Value) (ls : List (List UInt8)) (zs : List Int) (w : World) (hn : ls.length = n) (hs : Sl w w.heap.size A vs) (hr : RowsOf w w.heap.size vs ls) (hf : Few ls)
    (hz2 : zs.length = n2) (h14 : n2 ≤ 14) (hs2 : Sl w w.heap.size A2 (nums .u64 zs)) (hu : u < 256) :
    Calls Try.prog 7 #[.slice A n c, .slice A2 n2 c2, .int .u8 u, .int .u64 v, .bool b] w fun e w' => e = .returned (.bool true) ∧ Below w.heap.size w w' := by
  have H := hid (few_yes A n c _ vs ls w hn hs hr hf)
  have h12 : n ≤ 12 := by have := hf.1; omega
  have hsh := hf.short
  have HN := hid hn
  have HZ := hid hz2
  have HS := hid hs
  have HR := hid hr
  have HS2 := hid hs2
  have HD := hid (rdigests_any A n c _ vs ls w hn hs hr (Nat.le_refl _) hsh)
  clear hn hz2 hs hr hs2
  by_cases h0 : n = 0
  · have hneg : (n : Int) ≤ 0 := by omega
    have H0 := hid h0
    clear h0
    go_enter Try.func7, Try.ntmps7
    go_wp2_with fail
    refine H.out.mono ?_
    rintro e w1 ⟨rfl, rfl⟩
    go_wp2_with fail
    refine HD.out.mono ?_
    rintro e w1 ⟨A1, c1, rfl, ho1, hb1⟩
    have hyd : ([] : List Int).length = n := H0.out.symm
    obtain ⟨ysd, hysd⟩ : ∃ ysd : List Int, ysd = [] := ⟨_, rfl⟩
    rw [← hysd] at hyd
    have SD := hid (show Sl w1 w1.heap.size A1 (nums .u64 ysd) by rw [hysd]; exact .inl rfl)
    have HW := hid hb1
    clear hysd ho1 hb1
    cases b
    · go_wp2_with fail
      refine (verify_any A A2 n c n2 c2 _ vs ls zs _ HN.out (HS.out.below HW.out) (HR.out.below HW.out) HW.out.size hsh HZ.out (HS2.out.below HW.out)).mono ?_
      rintro e w5 ⟨rfl, hb5⟩
      have hz := HW.out.size
      have HW5 := hid (HW.out.trans (hb5.mono hz))
      have sd5 := SD.out.below hb5
      have hz5 := hb5.size
      clear hb5
      go_wp2_with fail
      refine (rverify_any A A2 n c n2 c2 _ vs ls zs _ HN.out (HS.out.below HW5.out) (HR.out.below HW5.out) HW5.out.size hsh HZ.out (HS2.out.below HW5.out)).mono ?_
      rintro e w6 ⟨rfl, hb6⟩
      have HW6 := hid (HW5.out.trans (hb6.mono HW5.out.size))
      have sd6 := hid ((sd5.mono hz5).below hb6)
      have hz6 := hb6.size
      clear hb6 sd5
      go_wp2_with fail
      refine (verify_any A _ n c _ _ _ vs ls ysd _ HN.out ((HS.out.below HW6.out).mono HW6.out.size) ((HR.out.below HW6.out).mono HW6.out.size) (Nat.le_refl _) hsh hyd (sd6.out.mono hz6)).mono ?_
      rintro e w7 ⟨rfl, hb7⟩
      have HW7 := hid (HW6.out.trans (hb7.mono HW6.out.size))
      have sd7 := hid ((sd6.out.mono hz6).below hb7)
      have hz7 := hb7.size
      clear hb7
      go_wp2_with fail
      refine (rverify_any A _ n c _ _ _ vs ls ysd _ HN.out ((HS.out.below HW7.out).mono HW7.out.size) ((HR.out.below HW7.out).mono HW7.out.size) (Nat.le_refl _) hsh hyd (sd7.out.mono hz7)).mono ?_
      rintro e w8 ⟨rfl, hb8⟩
      have HW8 := hid (HW7.out.trans (hb8.mono HW7.out.size))
      clear hb8
      go_wp2_with fail
      refine (awake_any _).mono ?_
      rintro e w9 ⟨rfl, hb9⟩
      go_wp2
      go_ret
      exact ⟨rfl, HW8.out.trans (hb9.mono HW8.out.size)⟩
    · go_wp2_with fail
      refine (verify_any A A2 n c n2 c2 _ vs ls zs _ HN.out (HS.out.below HW.out) (HR.out.below HW.out) HW.out.size hsh HZ.out (HS2.out.below HW.out)).mono ?_
      rintro e w5 ⟨rfl, hb5⟩
      have hz := HW.out.size
      have HW5 := hid (HW.out.trans (hb5.mono hz))
      have sd5 := SD.out.below hb5
      have hz5 := hb5.size
      clear hb5
      go_wp2_with fail
      refine (rverify_any A A2 n c n2 c2 _ vs ls zs _ HN.out (HS.out.below HW5.out) (HR.out.below HW5.out) HW5.out.size hsh HZ.out (HS2.out.below HW5.out)).mono ?_
      rintro e w6 ⟨rfl, hb6⟩
      have HW6 := hid (HW5.out.trans (hb6.mono HW5.out.size))
      have sd6 := hid ((sd5.mono hz5).below hb6)
      have hz6 := hb6.size
      clear hb6 sd5
      go_wp2_with fail
      refine (verify_any A _ n c _ _ _ vs ls ysd _ HN.out ((HS.out.below HW6.out).mono HW6.out.size) ((HR.out.below HW6.out).mono HW6.out.size) (Nat.le_refl _) hsh hyd (sd6.out.mono hz6)).mono ?_
      rintro e w7 ⟨rfl, hb7⟩
      have HW7 := hid (HW6.out.trans (hb7.mono HW6.out.size))
      have sd7 := hid ((sd6.out.mono hz6).below hb7)
      have hz7 := hb7.size
      clear hb7
      go_wp2_with fail
      refine (rverify_any A _ n c _ _ _ vs ls ysd _ HN.out ((HS.out.below HW7.out).mono HW7.out.size) ((HR.out.below HW7.out).mono HW7.out.size) (Nat.le_refl _) hsh hyd (sd7.out.mono hz7)).mono ?_
      rintro e w8 ⟨rfl, hb8⟩
      have HW8 := hid (HW7.out.trans (hb8.mono HW7.out.size))
      clear hb8
      go_wp2_with fail
      refine (awake_any _).mono ?_
      rintro e w9 ⟨rfl, hb9⟩
      go_wp2
      go_ret
      exact ⟨rfl, HW8.out.trans (hb9.mono HW8.out.size)⟩
  · have hpos : 0 < n := by omega
    have r0 : 0 ≤ (u : Int) % (n : Int) := Int.emod_nonneg _ (by omega)
    have r1 : (u : Int) % (n : Int) < n := Int.emod_lt_of_pos _ (by omega)
    have hi : u % n < n := Nat.mod_lt _ hpos
    clear h0
    go_enter Try.func7, Try.ntmps7
    go_wp2_with fail
    refine H.out.mono ?_
    rintro e w1 ⟨rfl, rfl⟩
    go_wp2_with fail
    refine HD.out.mono ?_
    rintro e w1 ⟨A1, c1, rfl, ho1, hb1⟩
    rw [dnums_dints] at ho1
    obtain ⟨g, rfl, hgb, hgw⟩ := own_at ho1 hpos
    have hx : (dints ls).length = n := by rw [dints_length, HN.out]
    obtain ⟨x, hxe⟩ : ∃ x, (dints ls)[u % n]? = some x := ⟨_, List.getElem?_eq_getElem (by omega)⟩
    have hcell : w1.cell? ⟨g, u % n, none⟩ = some (.int .u64 x) := by rw [ho1.cellAt (u % n) (by omega)]; simp [nums, hxe]
    have hfr := ho1.frozenAt (u % n)
    have hst := (ho1.stored (u % n) (.int .u64 (bits .xor .u64 x v))).1
    have hset : (nums .u64 (dints ls)).set (u % n) (.int .u64 (bits .xor .u64 x v)) = nums .u64 ((dints ls).set (u % n) (bits .xor .u64 x v)) := by simp [nums, List.map_set]
    rw [hset] at hst
    obtain ⟨y0, hy0⟩ : ∃ y0, y0 = (dints ls).set (u % n) (bits .xor .u64 x v) := ⟨_, rfl⟩
    rw [← hy0] at hst
    have hy0l : y0.length = n := by rw [hy0, List.length_set, hx]
    have hc1 := own_le ho1
    have HW := hid (hb1.setCell (p := ⟨g, u % n, none⟩) hgb (.int .u64 (bits .xor .u64 x v)))
    have sd0 := Sl.of_own hst
    have HY := hid hy0l
    clear hy0 hset hst hxe hx ho1 hb1
    cases b
    · obtain ⟨ysd, hysd⟩ : ∃ ysd, ysd = y0 := ⟨_, rfl⟩
      subst hysd
      have hyd := HY.out
      have SD := hid sd0
      clear sd0
      go_wp2_with fail
      refine (verify_any A A2 n c n2 c2 _ vs ls zs _ HN.out (HS.out.below HW.out) (HR.out.below HW.out) HW.out.size hsh HZ.out (HS2.out.below HW.out)).mono ?_
      rintro e w5 ⟨rfl, hb5⟩
      have hz := HW.out.size
      have HW5 := hid (HW.out.trans (hb5.mono hz))
      have sd5 := SD.out.below hb5
      have hz5 := hb5.size
      clear hb5
      go_wp2_with fail
      refine (rverify_any A A2 n c n2 c2 _ vs ls zs _ HN.out (HS.out.below HW5.out) (HR.out.below HW5.out) HW5.out.size hsh HZ.out (HS2.out.below HW5.out)).mono ?_
      rintro e w6 ⟨rfl, hb6⟩
      have HW6 := hid (HW5.out.trans (hb6.mono HW5.out.size))
      have sd6 := hid ((sd5.mono hz5).below hb6)
      have hz6 := hb6.size
      clear hb6 sd5
      go_wp2_with fail
      refine (verify_any A _ n c _ _ _ vs ls ysd _ HN.out ((HS.out.below HW6.out).mono HW6.out.size) ((HR.out.below HW6.out).mono HW6.out.size) (Nat.le_refl _) hsh hyd (sd6.out.mono hz6)).mono ?_
      rintro e w7 ⟨rfl, hb7⟩
      have HW7 := hid (HW6.out.trans (hb7.mono HW6.out.size))
      have sd7 := hid ((sd6.out.mono hz6).below hb7)
      have hz7 := hb7.size
      clear hb7
      go_wp2_with fail
      refine (rverify_any A _ n c _ _ _ vs ls ysd _ HN.out ((HS.out.below HW7.out).mono HW7.out.size) ((HR.out.below HW7.out).mono HW7.out.size) (Nat.le_refl _) hsh hyd (sd7.out.mono hz7)).mono ?_
      rintro e w8 ⟨rfl, hb8⟩
      have HW8 := hid (HW7.out.trans (hb8.mono HW7.out.size))
      clear hb8
      go_wp2_with fail
      refine (awake_any _).mono ?_
      rintro e w9 ⟨rfl, hb9⟩
      go_wp2
      go_ret
      exact ⟨rfl, HW8.out.trans (hb9.mono HW8.out.size)⟩
    · have sd1 := sd0.cut (k := 1) (c := c1) (by rw [nums_length, HY.out]; exact hc1) 1 rfl
      rw [← nums_drop] at sd1
      obtain ⟨ysd, hysd⟩ : ∃ ysd, ysd = y0.drop 1 := ⟨_, rfl⟩
      rw [← hysd] at sd1
      have hyd : ysd.length = n - 1 := by rw [hysd, List.length_drop, HY.out]
      clear sd0 hysd
      by_cases hcc : c1 = 1
      · rw [if_pos hcc] at sd1
        have SD := hid sd1
        clear sd1
        go_wp2_with fail
        refine (verify_any A A2 n c n2 c2 _ vs ls zs _ HN.out (HS.out.below HW.out) (HR.out.below HW.out) HW.out.size hsh HZ.out (HS2.out.below HW.out)).mono ?_
        rintro e w5 ⟨rfl, hb5⟩
        have hz := HW.out.size
        have HW5 := hid (HW.out.trans (hb5.mono hz))
        have sd5 := SD.out.below hb5
        have hz5 := hb5.size
        clear hb5
        go_wp2_with fail
        refine (rverify_any A A2 n c n2 c2 _ vs ls zs _ HN.out (HS.out.below HW5.out) (HR.out.below HW5.out) HW5.out.size hsh HZ.out (HS2.out.below HW5.out)).mono ?_
        rintro e w6 ⟨rfl, hb6⟩
        have HW6 := hid (HW5.out.trans (hb6.mono HW5.out.size))
        have sd6 := hid ((sd5.mono hz5).below hb6)
        have hz6 := hb6.size
        clear hb6 sd5
        go_wp2_with fail
        refine (verify_any A _ n c _ _ _ vs ls ysd _ HN.out ((HS.out.below HW6.out).mono HW6.out.size) ((HR.out.below HW6.out).mono HW6.out.size) (Nat.le_refl _) hsh hyd (sd6.out.mono hz6)).mono ?_
        rintro e w7 ⟨rfl, hb7⟩
        have HW7 := hid (HW6.out.trans (hb7.mono HW6.out.size))
        have sd7 := hid ((sd6.out.mono hz6).below hb7)
        have hz7 := hb7.size
        clear hb7
        go_wp2_with fail
        refine (rverify_any A _ n c _ _ _ vs ls ysd _ HN.out ((HS.out.below HW7.out).mono HW7.out.size) ((HR.out.below HW7.out).mono HW7.out.size) (Nat.le_refl _) hsh hyd (sd7.out.mono hz7)).mono ?_
        rintro e w8 ⟨rfl, hb8⟩
        have HW8 := hid (HW7.out.trans (hb8.mono HW7.out.size))
        clear hb8
        go_wp2_with fail
        refine (awake_any _).mono ?_
        rintro e w9 ⟨rfl, hb9⟩
        go_wp2
        go_ret
        exact ⟨rfl, HW8.out.trans (hb9.mono HW8.out.size)⟩
      · rw [if_neg hcc] at sd1
        have SD := hid sd1
        clear sd1
        go_wp2_with fail
        refine (verify_any A A2 n c n2 c2 _ vs ls zs _ HN.out (HS.out.below HW.out) (HR.out.below HW.out) HW.out.size hsh HZ.out (HS2.out.below HW.out)).mono ?_
        rintro e w5 ⟨rfl, hb5⟩
        have hz := HW.out.size
        have HW5 := hid (HW.out.trans (hb5.mono hz))
        have sd5 := SD.out.below hb5
        have hz5 := hb5.size
        clear hb5
        go_wp2_with fail
        refine (rverify_any A A2 n c n2 c2 _ vs ls zs _ HN.out (HS.out.below HW5.out) (HR.out.below HW5.out) HW5.out.size hsh HZ.out (HS2.out.below HW5.out)).mono ?_
        rintro e w6 ⟨rfl, hb6⟩
        have HW6 := hid (HW5.out.trans (hb6.mono HW5.out.size))
        have sd6 := hid ((sd5.mono hz5).below hb6)
        have hz6 := hb6.size
        clear hb6 sd5
        go_wp2_with fail
        refine (verify_any A _ n c _ _ _ vs ls ysd _ HN.out ((HS.out.below HW6.out).mono HW6.out.size) ((HR.out.below HW6.out).mono HW6.out.size) (Nat.le_refl _) hsh hyd (sd6.out.mono hz6)).mono ?_
        rintro e w7 ⟨rfl, hb7⟩
        have HW7 := hid (HW6.out.trans (hb7.mono HW6.out.size))
        have sd7 := hid ((sd6.out.mono hz6).below hb7)
        have hz7 := hb7.size
        clear hb7
        go_wp2_with fail
        refine (rverify_any A _ n c _ _ _ vs ls ysd _ HN.out ((HS.out.below HW7.out).mono HW7.out.size) ((HR.out.below HW7.out).mono HW7.out.size) (Nat.le_refl _) hsh hyd (sd7.out.mono hz7)).mono ?_
        rintro e w8 ⟨rfl, hb8⟩
        have HW8 := hid (HW7.out.trans (hb8.mono HW7.out.size))
        clear hb8
        go_wp2_with fail
        refine (awake_any _).mono ?_
        rintro e w9 ⟨rfl, hb9⟩
        go_wp2
        go_ret
        exact ⟨rfl, HW8.out.trans (hb9.mono HW8.out.size)⟩

theorem law_verify (A A2 : Option Addr) (n c n2 c2 u v : Nat) (b : Bool) (vs : List Value) (ls : List (List UInt8)) (zs : List Int) (w : World) (hn : ls.length = n) (hs : Sl w w.heap.size A vs) (hr : RowsOf w w.heap.size vs ls)
    (hz2 : zs.length = n2) (hs2 : Sl w w.heap.size A2 (nums .u64 zs)) (hu : u < 256) :
    Calls Try.prog 7 #[.slice A n c, .slice A2 n2 c2, .int .u8 u, .int .u64 v, .bool b] w fun e w' => e = .returned (.bool true) ∧ Below w.heap.size w w' := by
  by_cases hf : Few ls
  · by_cases h14 : n2 ≤ 14
    · exact verify_law A A2 n c n2 c2 u v b vs ls zs w hn hs hr hf hz2 h14 hs2 hu
    · have H := hid (few_yes A n c _ vs ls w hn hs hr hf)
      clear hn hz2 hs hr hf hs2
      go_enter Try.func7, Try.ntmps7
      go_wp2_with fail
      refine H.out.mono ?_
      rintro e w1 ⟨rfl, rfl⟩
      go_wp2_with fail
      refine (awake_any _).mono ?_
      rintro e w1 ⟨rfl, hb1⟩
      go_wp2
      go_ret
      exact ⟨rfl, hb1⟩
  · have H := hid (few_no A n c _ vs ls w hn hs hr hf)
    clear hn hz2 hs hr hf hs2
    go_enter Try.func7, Try.ntmps7
    go_wp2_with fail
    refine H.out.mono ?_
    rintro e w1 ⟨rfl, rfl⟩
    go_wp2_with fail
    refine (awake_any _).mono ?_
    rintro e w1 ⟨rfl, hb1⟩
    go_wp2
    go_ret
    exact ⟨rfl, hb1⟩
end Go.Proofs.Ytnjnlgpdkehdhaa
