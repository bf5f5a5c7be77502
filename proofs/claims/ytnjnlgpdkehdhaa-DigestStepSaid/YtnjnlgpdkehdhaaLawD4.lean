/-
  DigestStep, walked.
-/
import Derived.Test.YtnjnlgpdkehdhaaLawD3
import Derived.Deep.RegionHeld3
namespace Go.Proofs.Ytnjnlgpdkehdhaa
open Go.RowKit

theorem row_info : (Try.prog.info? 22).map (fun i => (i.zero, i.size, i.bytes)) = some (some (.slice none 0 0), 1, 24) := by kernel_rfl

theorem digs_last (d : Nat) (ls : List (List UInt8)) (h : 0 < ls.length) : (digs d ls)[ls.length - 1]? = some (lastd d ls) := by
  rcases List.eq_nil_or_concat ls with rfl | ⟨a, x, rfl⟩
  · simp at h
  · rw [List.concat_eq_append, digs_snoc, lastd_snoc]
    simp [digs_length]
theorem digs_new (d : Nat) (ls : List (List UInt8)) (r : List UInt8) : (digs d (ls ++ [r]))[ls.length]? = some (chain (lastd d ls) r) := by
  rw [digs_snoc]
  simp [digs_length]
theorem digs_old (d : Nat) (ls : List (List UInt8)) (r : List UInt8) (h : 0 < ls.length) : (digs d (ls ++ [r]))[ls.length - 1]? = some (lastd d ls) := by
  rw [digs_snoc, List.getElem?_append_left (by rw [digs_length]; omega)]
  exact digs_last d ls h
theorem dnums_at {l : List Nat} {i x : Nat} (h : l[i]? = some x) : (dnums l)[i]? = some (.int .u64 x) := by simp [dnums, nums, h]

theorem RowsOf.snoc {w : World} {B : Nat} {vs : List Value} {ls : List (List UInt8)} (h : RowsOf w B vs ls) {A : Option Addr} {n c : Nat} {r : List UInt8} (hn : r.length = n) (hc : n ≤ c) (hm : c ≤ maxLen) (hs : Sl w B A (bys r)) :
    RowsOf w B (vs ++ [.slice A n c]) (ls ++ [r]) := by
  refine ⟨by simp [h.1], fun k hk => ?_⟩
  by_cases hlt : k < ls.length
  · obtain ⟨A', c', e1, e2, e3, e4⟩ := h.2 k hlt
    rw [List.getElem_append_left hlt]
    exact ⟨A', c', by rw [List.getElem?_append_left (by rw [h.1]; exact hlt)]; exact e1, e2, e3, e4⟩
  · obtain rfl : k = ls.length := by simp at hk; omega
    simp only [List.getElem_concat_length]
    exact ⟨A, c, by rw [← h.1]; simp [hn], by omega, hm, hs⟩

theorem rows_one {w : World} {B : Nat} {vs : List Value} {ls : List (List UInt8)} (h : RowsOf w B vs ls) : ∀ u ∈ vs, u.oneCell' = true := by
  intro u hu
  obtain ⟨k, hk, rfl⟩ := List.getElem_of_mem hu
  obtain ⟨A, c, e, _⟩ := h.2 k (by rw [← h.1]; exact hk)
  obtain ⟨_, e⟩ := List.getElem?_eq_some_iff.1 e
  rw [e]
  rfl

set_option maxHeartbeats 1000000 in
theorem step_few (A A2 : Option Addr) (n c n2 c2 : Nat) (vs : List Value) (ls : List (List UInt8)) (r : List UInt8) (w : World) (hn : ls.length = n) (hs : Sl w w.heap.size A vs) (hr : RowsOf w w.heap.size vs ls) (hf : Few ls)
    (hn2 : r.length = n2) (h60 : n2 ≤ 60) (hc2 : n2 ≤ c2) (hm2 : c2 ≤ maxLen) (hs2 : Sl w w.heap.size A2 (bys r)) :
    Calls Try.prog 6 #[.slice A n c, .slice A2 n2 c2] w fun e w' => e = .returned (.bool true) ∧ Below w.heap.size w w' := by
  have H := hid (few_yes A n c _ vs ls w hn hs hr hf)
  have HN := hid hn
  have HN2 := hid hn2
  have h12 : n ≤ 12 := by have := hf.1; omega
  have hsh : Short (ls ++ [r]) := ⟨by simp; omega, fun x hx => by
    rcases List.mem_append.1 hx with h | h
    · exact hf.short.2 x h
    · simp at h; rw [h]; omega⟩
  have hone := rows_one hr
  clear hn hn2
  go_enter Try.func6, Try.ntmps6
  go_wp2_with fail
  refine H.out.mono ?_
  rintro e w1 ⟨rfl, rfl⟩
  have hal := (Below.refl w.heap.size w).alloc (Nat.le_refl _) (.cells #[] 22)
  go_wp2_with (at_builtin; refine wp_app1 Try.underlying30 row_info rfl (by decide) rfl (.tmp 16) (.tmp 17) rfl w.heap.size (some ⟨w.heap.size, 0, none⟩) 0 0 [] rfl (World.ownsRow_made w #[] 0 (Nat.le_refl _) (Nat.zero_le _) (by simp)) A w.heap.size n c vs rfl (by rw [hr.1, HN.out]) (hs.below hal) hone n (by omega) (by omega) (by simp) ?_)
  intro A3 c3 w3 hown3 hg3 _
  have hb3 := hal.grown hg3 (by simp) (by intro k hk; simp [Value.ownBlock] at hk; omega)
  have hz3 := hb3.size
  have hal3 := hb3.alloc hz3 (.cells #[.slice A2 n2 c2] 22)
  go_wp2_with (at_builtin; refine wp_app1 Try.underlying30 row_info rfl (by decide) rfl (.tmp 18) (.tmp 20) rfl w.heap.size A3 n c3 _ rfl (hown3.alloc _) (some ⟨w3.heap.size, 0, none⟩) (w3.heap.size + 1) 1 1 [.slice A2 n2 c2] rfl rfl (Sl.new w3 #[_] _ _) (by simp [Value.oneCell']) (n + 1) rfl (by omega) (by simp; omega) ?_)
  intro A4 c4 w4 hown4 hg4 _
  have hb4 := hal3.grown hg4 (by simp; omega) (own_lt hown3)
  have hz4 := hb4.size
  have hs4 := Sl.of_own hown4
  have hr4 : RowsOf w4 w4.heap.size (vs ++ [.slice A2 n2 c2]) (ls ++ [r]) := ((hr.below hb4).snoc HN2.out hc2 hm2 (hs2.below hb4)).mono hz4
  have HD := hid (digests_any A4 (n + 1) c4 _ _ _ w4 (by simp [HN.out]) hs4 hr4 (Nat.le_refl _) hsh)
  have HR := hid (hs2.below hb4)
  have HB := hid hb4
  clear hone hs hr hf hs2 hal hown3 hg3 hb3 hal3 hown4 hg4 hs4 hr4 hb4 hsh
  go_wp2_with fail
  refine HD.out.mono ?_
  rintro e w5 ⟨A5, c5, rfl, hown5, hb5⟩
  obtain ⟨g5, rfl, hg5, hl5⟩ := own_at hown5 (by omega)
  have HL := hid hown5
  have hb5' := HB.out.trans (hb5.mono hz4)
  have HB5 := hid hb5'
  have hz5 := hb5'.size
  have hR5 := HR.out.below (hb5.mono hz4)
  have c0 : w5.cell? ⟨g5, n, none⟩ = some (.int .u64 (chain (lastd fStart ls) r)) := by
    rw [hown5.cellAt n (by omega)]
    exact dnums_at (by have := digs_new fStart ls r; rwa [HN.out] at this)
  have S0 := hid (sum_any none 0 0 0 [] w5 rfl (.inl rfl) (Nat.zero_le _))
  clear hown5 hb5 hb5'
  go_wp2_with fail
  refine S0.out.mono ?_
  rintro e w6 ⟨rfl, rfl⟩
  have HM := hid (show n2 ≤ maxLen by unfold maxLen; omega)
  have j0 : (0 : Int) ≤ (n : Int) := by omega
  have j1 : (n : Int) < (n : Int) + 1 := by omega
  by_cases h0 : 0 < n
  · have c1 : w5.cell? ⟨g5, n - 1, none⟩ = some (.int .u64 (lastd fStart ls)) := by
      rw [HL.out.cellAt (n - 1) (by omega)]
      exact dnums_at (by have := digs_old fStart ls r (by rw [HN.out]; exact h0); rwa [HN.out] at this)
    have i0 : (0 : Int) ≤ (n : Int) - 1 := by omega
    have i1 : (n : Int) - 1 < (n : Int) + 1 := by omega
    have i2 : ((n : Int) - 1).toNat = n - 1 := by omega
    go_wp2_with fail
    clear i0 i1 i2 c1
    have HC := hid c0
    go_region_held3 (fun w' => w'.cell? ⟨g5, n, none⟩ = some (.int .u64 (chain (lastd fStart ls) r))) (first | exact c0 | exact k1 | exact k2)
      (first | (go_at_call 9; refine (awake_any _).mono ?_; rintro e w7 ⟨rfl, hb7'⟩; have hb7 := undrew hb7'; clear hb7'; have k1 := (hb7.cell (p := ⟨g5, n, none⟩) hl5).trans HC.out; have sr7 := hR5.below (hb7.mono hz5); have hz7 := Nat.le_trans hz5 hb7.size; have hb57 := HB5.out.trans (hb7.mono hz5); have hl7 := Nat.lt_of_lt_of_le hl5 hb7.size) | (go_at_call 12; refine (chain_any A2 n2 c2 w.heap.size (lastd fStart ls) r _ HN2.out ?_ ?_ ?_).mono ?_; exact sr7; exact HM.out; exact hz7; rintro e w8 ⟨rfl, hb8⟩; have k2 := (hb8.cell (p := ⟨g5, n, none⟩) hl7).trans k1; have hb58 := hb57.trans (hb8.mono hz7)))
    go_wp2
    go_ret
    exact ⟨rfl, hb58⟩
  · have e0 : fnv fStart [] = lastd fStart ls := by
      rw [fnv_nil, List.eq_nil_of_length_eq_zero (show ls.length = 0 by rw [HN.out]; omega), lastd_nil]
    rw [e0]
    clear e0
    go_wp2_with fail
    have HC := hid c0
    go_region_held3 (fun w' => w'.cell? ⟨g5, n, none⟩ = some (.int .u64 (chain (lastd fStart ls) r))) (first | exact c0 | exact k1 | exact k2)
      (first | (go_at_call 9; refine (awake_any _).mono ?_; rintro e w7 ⟨rfl, hb7'⟩; have hb7 := undrew hb7'; clear hb7'; have k1 := (hb7.cell (p := ⟨g5, n, none⟩) hl5).trans HC.out; have sr7 := hR5.below (hb7.mono hz5); have hz7 := Nat.le_trans hz5 hb7.size; have hb57 := HB5.out.trans (hb7.mono hz5); have hl7 := Nat.lt_of_lt_of_le hl5 hb7.size) | (go_at_call 12; refine (chain_any A2 n2 c2 w.heap.size (lastd fStart ls) r _ HN2.out ?_ ?_ ?_).mono ?_; exact sr7; exact HM.out; exact hz7; rintro e w8 ⟨rfl, hb8⟩; have k2 := (hb8.cell (p := ⟨g5, n, none⟩) hl7).trans k1; have hb58 := hb57.trans (hb8.mono hz7)))
    go_wp2
    go_ret
    exact ⟨rfl, hb58⟩

theorem law_step (A A2 : Option Addr) (n c n2 c2 : Nat) (vs : List Value) (ls : List (List UInt8)) (r : List UInt8) (w : World) (hn : ls.length = n) (hs : Sl w w.heap.size A vs) (hr : RowsOf w w.heap.size vs ls)
    (hn2 : r.length = n2) (hc2 : n2 ≤ c2) (hm2 : c2 ≤ maxLen) (hs2 : Sl w w.heap.size A2 (bys r)) :
    Calls Try.prog 6 #[.slice A n c, .slice A2 n2 c2] w fun e w' => e = .returned (.bool true) ∧ Below w.heap.size w w' := by
  by_cases hf : Few ls
  · by_cases h60 : n2 ≤ 60
    · exact step_few A A2 n c n2 c2 vs ls r w hn hs hr hf hn2 h60 hc2 hm2 hs2
    · have H := hid (few_yes A n c _ vs ls w hn hs hr hf)
      clear hn hn2 hs hr hf hm2 hs2
      go_enter Try.func6, Try.ntmps6
      go_wp2_with fail
      refine H.out.mono ?_
      rintro e w1 ⟨rfl, rfl⟩
      go_wp2_with fail
      refine (awake_any _).mono ?_
      rintro e w1 ⟨rfl, hb1⟩
      go_wp2
      go_ret
      exact ⟨rfl, hb1⟩
  · have H := hid (few_no A n c _ vs ls w hn hs hr hf)
    clear hn hn2 hs hr hf hm2 hs2
    go_enter Try.func6, Try.ntmps6
    go_wp2_with fail
    refine H.out.mono ?_
    rintro e w1 ⟨rfl, rfl⟩
    go_wp2_with fail
    refine (awake_any _).mono ?_
    rintro e w1 ⟨rfl, hb1⟩
    go_wp2
    go_ret
    exact ⟨rfl, hb1⟩
end Go.Proofs.Ytnjnlgpdkehdhaa
