/-
  EventApart walked.
-/
import Derived.Test.YtphgngpdmkcnkaaLawE1
namespace Go.Proofs.Ytphgngpdmkcnkaa
open Go.RowKit
set_option linter.unusedSimpArgs false

theorem encE_inj {p o h a x p' o' h' a' x' : Nat} (ok : EvOK p o x) (ok' : EvOK p' o' x') (hh : h < 18446744073709551616) (ha : a < 18446744073709551616) (hh' : h' < 18446744073709551616) (ha' : a' < 18446744073709551616)
    (e : encE p o h a x = encE p' o' h' a' x') : (p, o, h, a, x) = (p', o', h', a', x') := by
  have h1 := decE_enc p o h a x ok hh ha
  have h2 := decE_enc p' o' h' a' x' ok' hh' ha'
  rw [e, h2] at h1
  exact (congrArg Prod.fst h1).symm
theorem five_not {p o h a x p' o' h' a' x' : Nat} (hne : ¬ (p, o, h, a, x) = (p', o', h', a', x')) : (p : Int) = p' → (o : Int) = o' → (h : Int) = h' → (a : Int) = a' → ¬ (x : Int) = x' :=
  fun h1 h2 h3 h4 h5 => hne (by rw [Int.ofNat_inj.1 h1, Int.ofNat_inj.1 h2, Int.ofNat_inj.1 h3, Int.ofNat_inj.1 h4, Int.ofNat_inj.1 h5])
theorem encE_short (p o h a x : Nat) (ok : EvOK p o x) (hh : h < 18446744073709551616) (ha : a < 18446744073709551616) : (encE p o h a x).length ≤ 50 := by
  unfold EvOK at ok
  exact encs_len [p, o, h, a, x] (by intro n hn; simp at hn; omega)

set_option maxHeartbeats 1000000 in
theorem apart_walk (A : Option Addr) (n c : Nat) (zs : List Int) (A2 : Option Addr) (n2 c2 : Nat) (zs2 : List Int) (w : World) (hz : ∀ z ∈ zs, 0 ≤ z ∧ z < 65536) (hn : zs.length = n) (hc : n ≤ c) (hs : Sl w w.heap.size A (nums .u16 zs))
    (hz2 : ∀ z ∈ zs2, 0 ≤ z ∧ z < 65536) (hn2 : zs2.length = n2) (hc2 : n2 ≤ c2) (hs2 : Sl w w.heap.size A2 (nums .u16 zs2)) :
    Calls Try.prog 4 #[.slice A n c, .slice A2 n2 c2] w fun e w' => e = .returned (.bool true) ∧ Below w.heap.size w w' := by
  have HO := hid (of_any A n c 12 zs w hz hn hc hs (by omega))
  have HO2 := hid (fun (w' : World) (h : Below w.heap.size w w') => of_any A2 n2 c2 12 zs2 w' hz2 hn2 hc2 (hs2.go h) (by omega))
  clear hz hn hc hs hz2 hn2 hc2 hs2
  go_enter Try.func4, Try.ntmps4
  go_wp2_with fail
  refine HO.out.mono ?_
  rintro e w1 ⟨g, N, rfl, hN, ht1, hb1⟩
  have HT1 := hid ht1
  have HB1 := hid hb1
  clear ht1 hb1
  go_wp2_with fail
  refine (event_any _ _ g N 0 w1 HT1.out (by omega)).mono ?_
  rintro e w2 ⟨p, o, h, a, x, i', rfl, ok, _, hh, ha, _, _, _, hg2⟩
  have HOK := hid ok
  have HB2 := hid (made_below HB1.out HB1.out.size hg2 (Nat.le_refl _) HT1.out)
  have HI := hid (fun w => encode_yes p o h a x w ok hh ha)
  have HL := hid (encE_short p o h a x ok hh ha)
  unfold evv at HI ⊢
  clear hg2 ok
  go_wp2_with fail
  refine (HO2.out _ HB2.out).mono ?_
  rintro e w3 ⟨g', N', rfl, hN', ht3, hb3⟩
  have HT3 := hid ht3
  have HB3 := hid (below_go HB2.out hb3)
  clear ht3 hb3
  go_wp2_with fail
  refine (event_any _ _ g' N' 0 w3 HT3.out (by omega)).mono ?_
  rintro e w4 ⟨p', o', h', a', x', i'', rfl, ok', _, hh', ha', _, _, _, hg4⟩
  have HOK' := hid ok'
  have HB4 := hid (made_below HB3.out HB3.out.size hg4 HB2.out.size HT3.out)
  have HI' := hid (fun w => encode_yes p' o' h' a' x' w ok' hh' ha')
  have HL' := hid (encE_short p' o' h' a' x' ok' hh' ha')
  have HJ := hid (encE_inj HOK.out HOK'.out hh ha hh' ha')
  unfold evv at HI' ⊢
  clear hg4 ok'
  go_wp2_with fail
  obtain ⟨w5, hw5⟩ : ∃ w5, w5 = w4.alloc (.cells #[.int .i64 (p : Int), .int .i64 (o : Int), .int .u64 (h : Int), .int .u64 (a : Int), .int .i64 (x : Int)] 26) := ⟨_, rfl⟩
  have HE5 := hid (show EvAt w4.heap.size p o h a x w5 by rw [hw5]; exact ev_new _ _ _ _ _ _)
  have HS5 := hid (show w5.heap.size = w4.heap.size + 1 by rw [hw5]; simp)
  have HB5 := hid (show Below w.heap.size w w5 by rw [hw5]; exact below_go HB4.out (below_new _ _ _))
  simp only [← hw5]
  clear hw5
  obtain ⟨w6, hw6⟩ : ∃ w6, w6 = w5.alloc (.cells #[.int .i64 (p' : Int), .int .i64 (o' : Int), .int .u64 (h' : Int), .int .u64 (a' : Int), .int .i64 (x' : Int)] 26) := ⟨_, rfl⟩
  have HF6 := hid (show EvAt (w4.heap.size + 1) p' o' h' a' x' w6 by rw [hw6, ← HS5.out]; exact ev_new _ _ _ _ _ _)
  have HE6 := hid (show EvAt w4.heap.size p o h a x w6 by rw [hw6]; exact ev_keep HE5.out (below_new _ _ _))
  have HB6 := hid (show Below w.heap.size w w6 by rw [hw6]; exact below_go HB5.out (below_new _ _ _))
  simp only [← hw6]
  clear hw6 HE5 HB5
  obtain ⟨la, hla⟩ : ∃ la, la = encE p o h a x := ⟨_, rfl⟩
  obtain ⟨lb, hlb⟩ : ∃ lb, lb = encE p' o' h' a' x' := ⟨_, rfl⟩
  rw [← hla, ← hlb] at HJ
  rw [← hla] at HI HL
  rw [← hlb] at HI' HL'
  have HLA := hid hla
  have HLB := hid hlb
  clear hla hlb
  refine (HI.out w6).mono ?_
  rintro e w7 ⟨A7, c7, rfl, ho7, hb7⟩
  have HO7 := hid ho7
  have HB7 := hid (below_go HB6.out hb7)
  have HE7 := hid (ev_keep HE6.out hb7)
  have HF7 := hid (ev_keep HF6.out hb7)
  obtain ⟨⟨f0, f1, f2, f3, f4⟩, hg⟩ := HF7.out
  clear ho7 hb7
  go_wp2_with fail
  clear f0 f1 f2 f3 f4 hg
  refine (HI'.out w7).mono ?_
  rintro e w8 ⟨A8, c8, rfl, ho8, hb8⟩
  have HO8 := hid ho8
  have HB8 := hid (below_go HB7.out hb8)
  have HP8 := hid (own_below HO7.out hb8)
  have HE8 := hid (ev_keep HE7.out hb8)
  have HF8 := hid (ev_keep HF7.out hb8)
  clear ho8 hb8
  go_wp2_with fail
  by_cases heq : (p, o, h, a, x) = (p', o', h', a', x')
  · obtain ⟨rfl, rfl, rfl, rfl, rfl⟩ : p = p' ∧ o = o' ∧ h = h' ∧ a = a' ∧ x = x' := by simpa using heq
    obtain rfl : la = lb := by rw [HLA.out, HLB.out]
    clear heq
    refine wp_region_noPanic ?_
    refine wp_region_held_drew (S := (fun W => ((convert 32 9 (.slice A7 la.length c7)).run Try.prog W = .ok (.string (strOf la)) W ∧ (convert 32 9 (.slice A8 la.length c8)).run Try.prog W = .ok (.string (strOf la)) W) ∧ EvAt w4.heap.size p o h a x W ∧ EvAt (w4.heap.size + 1) p o h a x W)) (by kernel_rfl) ⟨⟨str_own HP8.out, str_own HO8.out⟩, HE8.out, HF8.out⟩ (fun hH0 => ?_)
    refine wpAnyH_ready (rs := [0]) (by kernel_rfl) (by simp) ?_
    refine AllReadyH.cons rfl (fun K hK => ?_) AllReadyH.nil
    simp only [List.getElem_toArray, List.getElem_cons_zero]
    go_simp
    refine (awake_any _).mono ?_
    rintro e w9 ⟨rfl, hb9⟩
    have HB9 := hid (below_go HB8.out (undrew hb9))
    refine hK.out _ _ ⟨⟨str_own (own_below HP8.out (undrew hb9)), str_own (own_below HO8.out (undrew hb9))⟩, ev_keep HE8.out (undrew hb9), ev_keep HF8.out (undrew hb9)⟩ (fun hH1 => ?_)
    clear hK K hH0 hb9
    try simp only [Act.put, List.setIfInBounds_toArray, List.set_cons_zero, List.set_cons_succ]
    refine wpAnyH_take (i := 1) (v := ?_) rfl (by kernel_rfl) (by kernel_rfl) (by kernel_rfl) (fun _ _ _ h => h) (Or.inl ⟨by rfl, ?_⟩) hH1 ?_
    rotate_left
    · (intro w hSw; go_simp; try (with_reducible rfl))
    try simp only [Act.put, List.getElem_toArray, List.getElem_cons_zero, List.getElem_cons_succ, List.setIfInBounds_toArray, List.set_cons_zero, List.set_cons_succ]
    refine wpAnyH_take (i := 2) (v := ?_) rfl (by kernel_rfl) (by kernel_rfl) (by kernel_rfl) (fun _ _ _ h => h) (Or.inl ⟨by rfl, ?_⟩) hH1 ?_
    rotate_left
    · (intro w hSw; go_simp; try (with_reducible rfl))
    try simp only [Act.put, List.getElem_toArray, List.getElem_cons_zero, List.getElem_cons_succ, List.setIfInBounds_toArray, List.set_cons_zero, List.set_cons_succ]
    refine wpAnyH_take (i := 3) (v := ?_) rfl (by kernel_rfl) (by kernel_rfl) (by kernel_rfl) (fun _ _ _ h => h) (Or.inl ⟨by rfl, ?_⟩) hH1 ?_
    rotate_left
    · (intro w hSw; go_simp; try (with_reducible rfl))
    try simp only [Act.put, List.getElem_toArray, List.getElem_cons_zero, List.getElem_cons_succ, List.setIfInBounds_toArray, List.set_cons_zero, List.set_cons_succ]
    refine wpAnyH_take (i := 4) (v := ?_) rfl (by kernel_rfl) (by kernel_rfl) (by kernel_rfl) (fun _ _ _ h => h) (Or.inl ⟨by rfl, ?_⟩) hH1 ?_
    rotate_left
    · (intro w hSw; go_simp; try (with_reducible rfl))
    try simp only [Act.put, List.getElem_toArray, List.getElem_cons_zero, List.getElem_cons_succ, List.setIfInBounds_toArray, List.set_cons_zero, List.set_cons_succ]
    refine wpAnyH_take (i := 5) (v := ?_) rfl (by kernel_rfl) (by kernel_rfl) (by kernel_rfl) (fun _ _ _ h => h) (Or.inl ⟨by rfl, ?_⟩) hH1 ?_
    rotate_left
    · (intro w hSw; go_simp; try (with_reducible rfl))
    try simp only [Act.put, List.getElem_toArray, List.getElem_cons_zero, List.getElem_cons_succ, List.setIfInBounds_toArray, List.set_cons_zero, List.set_cons_succ]
    refine wpAnyH_take (i := 6) (v := ?_) rfl (by kernel_rfl) (by kernel_rfl) (by kernel_rfl) (fun _ _ _ h => h) (Or.inl ⟨by rfl, ?_⟩) hH1 ?_
    rotate_left
    · (intro w hSw; go_simp; try (with_reducible rfl))
    try simp only [Act.put, List.getElem_toArray, List.getElem_cons_zero, List.getElem_cons_succ, List.setIfInBounds_toArray, List.set_cons_zero, List.set_cons_succ]
    refine wpAnyH_take (i := 7) (v := ?_) rfl (by kernel_rfl) (by kernel_rfl) (by kernel_rfl) (fun _ _ _ h => h) (Or.inl ⟨by rfl, ?_⟩) hH1 ?_
    rotate_left
    · (intro w hSw; go_simp; try (with_reducible rfl))
    try simp only [Act.put, List.getElem_toArray, List.getElem_cons_zero, List.getElem_cons_succ, List.setIfInBounds_toArray, List.set_cons_zero, List.set_cons_succ]
    refine wpAnyH_take (i := 8) (v := ?_) rfl (by kernel_rfl) (by kernel_rfl) (by kernel_rfl) (fun _ _ _ h => h) (Or.inl ⟨by rfl, ?_⟩) hH1 ?_
    rotate_left
    · (intro w hSw; go_simp; try (with_reducible rfl))
    try simp only [Act.put, List.getElem_toArray, List.getElem_cons_zero, List.getElem_cons_succ, List.setIfInBounds_toArray, List.set_cons_zero, List.set_cons_succ]
    refine wpAnyH_take (i := 9) (v := ?_) rfl (by kernel_rfl) (by kernel_rfl) (by kernel_rfl) (fun _ _ _ h => h) (Or.inl ⟨by rfl, ?_⟩) hH1 ?_
    rotate_left
    · (intro w hSw; go_simp; try (with_reducible rfl))
    try simp only [Act.put, List.getElem_toArray, List.getElem_cons_zero, List.getElem_cons_succ, List.setIfInBounds_toArray, List.set_cons_zero, List.set_cons_succ]
    refine wpAnyH_take (i := 10) (v := ?_) rfl (by kernel_rfl) (by kernel_rfl) (by kernel_rfl) (fun _ _ _ h => h) (Or.inl ⟨by rfl, ?_⟩) hH1 ?_
    rotate_left
    · (intro w hSw; go_simp; try (with_reducible rfl))
    try simp only [Act.put, List.getElem_toArray, List.getElem_cons_zero, List.getElem_cons_succ, List.setIfInBounds_toArray, List.set_cons_zero, List.set_cons_succ]
    refine wpAnyH_take (i := 11) (v := ?_) rfl (by kernel_rfl) (by kernel_rfl) (by kernel_rfl) (fun _ _ _ h => h) (Or.inl ⟨by rfl, ?_⟩) hH1 ?_
    rotate_left
    · (intro w hSw; obtain ⟨⟨s1, s2⟩, ⟨⟨e0, e1, e2, e3, e4⟩, _⟩, ⟨⟨f0, f1, f2, f3, f4⟩, _⟩⟩ := hSw; go_simp; try (with_reducible rfl))
    try simp only [Act.put, List.getElem_toArray, List.getElem_cons_zero, List.getElem_cons_succ, List.setIfInBounds_toArray, List.set_cons_zero, List.set_cons_succ]
    refine wpAnyH_take (i := 12) (v := ?_) rfl (by kernel_rfl) (by kernel_rfl) (by kernel_rfl) (fun _ _ _ h => h) (Or.inl ⟨by rfl, ?_⟩) hH1 ?_
    rotate_left
    · (intro w hSw; go_simp; try (with_reducible rfl))
    try simp only [Act.put, List.getElem_toArray, List.getElem_cons_zero, List.getElem_cons_succ, List.setIfInBounds_toArray, List.set_cons_zero, List.set_cons_succ]
    refine wpAnyH_take (i := 13) (v := ?_) rfl (by kernel_rfl) (by kernel_rfl) (by kernel_rfl) (fun _ _ _ h => h) (Or.inl ⟨by rfl, ?_⟩) hH1 ?_
    rotate_left
    · (intro w hSw; obtain ⟨⟨s1, s2⟩, ⟨⟨e0, e1, e2, e3, e4⟩, _⟩, ⟨⟨f0, f1, f2, f3, f4⟩, _⟩⟩ := hSw; go_simp; try (with_reducible rfl))
    try simp only [Act.put, List.getElem_toArray, List.getElem_cons_zero, List.getElem_cons_succ, List.setIfInBounds_toArray, List.set_cons_zero, List.set_cons_succ]
    refine wpAnyH_take (i := 14) (v := ?_) rfl (by kernel_rfl) (by kernel_rfl) (by kernel_rfl) (fun _ _ _ h => h) (Or.inl ⟨by rfl, ?_⟩) hH1 ?_
    rotate_left
    · (intro w hSw; go_simp; try (with_reducible rfl))
    try simp only [Act.put, List.getElem_toArray, List.getElem_cons_zero, List.getElem_cons_succ, List.setIfInBounds_toArray, List.set_cons_zero, List.set_cons_succ]
    refine wpAnyH_take (i := 15) (v := ?_) rfl (by kernel_rfl) (by kernel_rfl) (by kernel_rfl) (fun _ _ _ h => h) (Or.inl ⟨by rfl, ?_⟩) hH1 ?_
    rotate_left
    · (intro w hSw; obtain ⟨⟨s1, s2⟩, ⟨⟨e0, e1, e2, e3, e4⟩, _⟩, ⟨⟨f0, f1, f2, f3, f4⟩, _⟩⟩ := hSw; go_simp; try (with_reducible rfl))
    try simp only [Act.put, List.getElem_toArray, List.getElem_cons_zero, List.getElem_cons_succ, List.setIfInBounds_toArray, List.set_cons_zero, List.set_cons_succ]
    refine wpAnyH_take (i := 16) (v := ?_) rfl (by kernel_rfl) (by kernel_rfl) (by kernel_rfl) (fun _ _ _ h => h) (Or.inl ⟨by rfl, ?_⟩) hH1 ?_
    rotate_left
    · (intro w hSw; obtain ⟨⟨s1, s2⟩, ⟨⟨e0, e1, e2, e3, e4⟩, _⟩, ⟨⟨f0, f1, f2, f3, f4⟩, _⟩⟩ := hSw; go_simp; try (with_reducible rfl))
    try simp only [Act.put, List.getElem_toArray, List.getElem_cons_zero, List.getElem_cons_succ, List.setIfInBounds_toArray, List.set_cons_zero, List.set_cons_succ]
    refine wpAnyH_take (i := 17) (v := ?_) rfl (by kernel_rfl) (by kernel_rfl) (by kernel_rfl) (fun _ _ _ h => h) (Or.inl ⟨by rfl, ?_⟩) hH1 ?_
    rotate_left
    · (intro w hSw; go_simp; try (with_reducible rfl))
    try simp only [Act.put, List.getElem_toArray, List.getElem_cons_zero, List.getElem_cons_succ, List.setIfInBounds_toArray, List.set_cons_zero, List.set_cons_succ]
    refine wpAnyH_take (i := 18) (v := ?_) rfl (by kernel_rfl) (by kernel_rfl) (by kernel_rfl) (fun _ _ _ h => h) (Or.inl ⟨by rfl, ?_⟩) hH1 ?_
    rotate_left
    · (intro w hSw; go_simp; try (with_reducible rfl))
    try simp only [Act.put, List.getElem_toArray, List.getElem_cons_zero, List.getElem_cons_succ, List.setIfInBounds_toArray, List.set_cons_zero, List.set_cons_succ]
    refine wpAnyH_take (i := 19) (v := ?_) rfl (by kernel_rfl) (by kernel_rfl) (by kernel_rfl) (fun _ _ _ h => h) (Or.inl ⟨by rfl, ?_⟩) hH1 ?_
    rotate_left
    · (intro w hSw; go_simp; try (with_reducible rfl))
    try simp only [Act.put, List.getElem_toArray, List.getElem_cons_zero, List.getElem_cons_succ, List.setIfInBounds_toArray, List.set_cons_zero, List.set_cons_succ]
    refine wpAnyH_take (i := 20) (v := ?_) rfl (by kernel_rfl) (by kernel_rfl) (by kernel_rfl) (fun _ _ _ h => h) (Or.inl ⟨by rfl, ?_⟩) hH1 ?_
    rotate_left
    · (intro w hSw; go_simp; try (with_reducible rfl))
    try simp only [Act.put, List.getElem_toArray, List.getElem_cons_zero, List.getElem_cons_succ, List.setIfInBounds_toArray, List.set_cons_zero, List.set_cons_succ]
    refine wpAnyH_done (by kernel_rfl) ?_ _
    refine NoPanic.normal ?_
    go_wp2
    go_ret
    exact ⟨rfl, HB9.out⟩
  · have hne : ((strOf la).toList == (strOf lb).toList) = false := by
      rw [strOf_toList, strOf_toList]
      exact beq_eq_false_iff_ne.2 fun e => heq (HJ.out e)
    have HNE := hid heq
    clear heq
    refine wp_region_noPanic ?_
    refine wp_region_held_drew (S := (fun W => ((convert 32 9 (.slice A7 la.length c7)).run Try.prog W = .ok (.string (strOf la)) W ∧ (convert 32 9 (.slice A8 lb.length c8)).run Try.prog W = .ok (.string (strOf lb)) W) ∧ EvAt w4.heap.size p o h a x W ∧ EvAt (w4.heap.size + 1) p' o' h' a' x' W)) (by kernel_rfl) ⟨⟨str_own HP8.out, str_own HO8.out⟩, HE8.out, HF8.out⟩ (fun hH0 => ?_)
    refine wpAnyH_ready (rs := [0]) (by kernel_rfl) (by simp) ?_
    refine AllReadyH.cons rfl (fun K hK => ?_) AllReadyH.nil
    simp only [List.getElem_toArray, List.getElem_cons_zero]
    go_simp
    refine (awake_any _).mono ?_
    rintro e w9 ⟨rfl, hb9⟩
    have HB9 := hid (below_go HB8.out (undrew hb9))
    refine hK.out _ _ ⟨⟨str_own (own_below HP8.out (undrew hb9)), str_own (own_below HO8.out (undrew hb9))⟩, ev_keep HE8.out (undrew hb9), ev_keep HF8.out (undrew hb9)⟩ (fun hH1 => ?_)
    clear hK K hH0 hb9
    try simp only [Act.put, List.setIfInBounds_toArray, List.set_cons_zero, List.set_cons_succ]
    refine wpAnyH_take (i := 1) (v := ?_) rfl (by kernel_rfl) (by kernel_rfl) (by kernel_rfl) (fun _ _ _ h => h) (Or.inl ⟨by rfl, ?_⟩) hH1 ?_
    rotate_left
    · (intro w hSw; go_simp; try (with_reducible rfl))
    try simp only [Act.put, List.getElem_toArray, List.getElem_cons_zero, List.getElem_cons_succ, List.setIfInBounds_toArray, List.set_cons_zero, List.set_cons_succ]
    refine wpAnyH_take (i := 2) (v := ?_) rfl (by kernel_rfl) (by kernel_rfl) (by kernel_rfl) (fun _ _ _ h => h) (Or.inl ⟨by rfl, ?_⟩) hH1 ?_
    rotate_left
    · (intro w hSw; go_simp; try (with_reducible rfl))
    try simp only [Act.put, List.getElem_toArray, List.getElem_cons_zero, List.getElem_cons_succ, List.setIfInBounds_toArray, List.set_cons_zero, List.set_cons_succ]
    refine wpAnyH_take (i := 3) (v := ?_) rfl (by kernel_rfl) (by kernel_rfl) (by kernel_rfl) (fun _ _ _ h => h) (Or.inl ⟨by rfl, ?_⟩) hH1 ?_
    rotate_left
    · (intro w hSw; go_simp; try (with_reducible rfl))
    try simp only [Act.put, List.getElem_toArray, List.getElem_cons_zero, List.getElem_cons_succ, List.setIfInBounds_toArray, List.set_cons_zero, List.set_cons_succ]
    refine wpAnyH_take (i := 4) (v := ?_) rfl (by kernel_rfl) (by kernel_rfl) (by kernel_rfl) (fun _ _ _ h => h) (Or.inl ⟨by rfl, ?_⟩) hH1 ?_
    rotate_left
    · (intro w hSw; go_simp; try (with_reducible rfl))
    try simp only [Act.put, List.getElem_toArray, List.getElem_cons_zero, List.getElem_cons_succ, List.setIfInBounds_toArray, List.set_cons_zero, List.set_cons_succ]
    refine wpAnyH_take (i := 5) (v := ?_) rfl (by kernel_rfl) (by kernel_rfl) (by kernel_rfl) (fun _ _ _ h => h) (Or.inl ⟨by rfl, ?_⟩) hH1 ?_
    rotate_left
    · (intro w hSw; go_simp; try (with_reducible rfl))
    try simp only [Act.put, List.getElem_toArray, List.getElem_cons_zero, List.getElem_cons_succ, List.setIfInBounds_toArray, List.set_cons_zero, List.set_cons_succ]
    refine wpAnyH_take (i := 6) (v := ?_) rfl (by kernel_rfl) (by kernel_rfl) (by kernel_rfl) (fun _ _ _ h => h) (Or.inl ⟨by rfl, ?_⟩) hH1 ?_
    rotate_left
    · (intro w hSw; go_simp; try (with_reducible rfl))
    try simp only [Act.put, List.getElem_toArray, List.getElem_cons_zero, List.getElem_cons_succ, List.setIfInBounds_toArray, List.set_cons_zero, List.set_cons_succ]
    refine wpAnyH_take (i := 7) (v := ?_) rfl (by kernel_rfl) (by kernel_rfl) (by kernel_rfl) (fun _ _ _ h => h) (Or.inl ⟨by rfl, ?_⟩) hH1 ?_
    rotate_left
    · (intro w hSw; go_simp; try (with_reducible rfl))
    try simp only [Act.put, List.getElem_toArray, List.getElem_cons_zero, List.getElem_cons_succ, List.setIfInBounds_toArray, List.set_cons_zero, List.set_cons_succ]
    refine wpAnyH_take (i := 8) (v := ?_) rfl (by kernel_rfl) (by kernel_rfl) (by kernel_rfl) (fun _ _ _ h => h) (Or.inl ⟨by rfl, ?_⟩) hH1 ?_
    rotate_left
    · (intro w hSw; go_simp; try (with_reducible rfl))
    try simp only [Act.put, List.getElem_toArray, List.getElem_cons_zero, List.getElem_cons_succ, List.setIfInBounds_toArray, List.set_cons_zero, List.set_cons_succ]
    refine wpAnyH_take (i := 9) (v := ?_) rfl (by kernel_rfl) (by kernel_rfl) (by kernel_rfl) (fun _ _ _ h => h) (Or.inl ⟨by rfl, ?_⟩) hH1 ?_
    rotate_left
    · (intro w hSw; go_simp; try (with_reducible rfl))
    try simp only [Act.put, List.getElem_toArray, List.getElem_cons_zero, List.getElem_cons_succ, List.setIfInBounds_toArray, List.set_cons_zero, List.set_cons_succ]
    refine wpAnyH_take (i := 10) (v := ?_) rfl (by kernel_rfl) (by kernel_rfl) (by kernel_rfl) (fun _ _ _ h => h) (Or.inl ⟨by rfl, ?_⟩) hH1 ?_
    rotate_left
    · (intro w hSw; go_simp; try (with_reducible rfl))
    try simp only [Act.put, List.getElem_toArray, List.getElem_cons_zero, List.getElem_cons_succ, List.setIfInBounds_toArray, List.set_cons_zero, List.set_cons_succ]
    refine wpAnyH_take (i := 11) (v := ?_) rfl (by kernel_rfl) (by kernel_rfl) (by kernel_rfl) (fun _ _ _ h => h) (Or.inl ⟨by rfl, ?_⟩) hH1 ?_
    rotate_left
    · (intro w hSw; obtain ⟨⟨s1, s2⟩, ⟨⟨e0, e1, e2, e3, e4⟩, _⟩, ⟨⟨f0, f1, f2, f3, f4⟩, _⟩⟩ := hSw; go_simp; try (with_reducible rfl))
    try simp only [Act.put, List.getElem_toArray, List.getElem_cons_zero, List.getElem_cons_succ, List.setIfInBounds_toArray, List.set_cons_zero, List.set_cons_succ]
    refine wpAnyH_take (i := 12) (v := ?_) rfl (by kernel_rfl) (by kernel_rfl) (by kernel_rfl) (fun _ _ _ h => h) (Or.inl ⟨by rfl, ?_⟩) hH1 ?_
    rotate_left
    · (intro w hSw; go_simp; try (with_reducible rfl))
    try simp only [Act.put, List.getElem_toArray, List.getElem_cons_zero, List.getElem_cons_succ, List.setIfInBounds_toArray, List.set_cons_zero, List.set_cons_succ]
    refine wpAnyH_take (i := 13) (v := ?_) rfl (by kernel_rfl) (by kernel_rfl) (by kernel_rfl) (fun _ _ _ h => h) (Or.inl ⟨by rfl, ?_⟩) hH1 ?_
    rotate_left
    · (intro w hSw; obtain ⟨⟨s1, s2⟩, ⟨⟨e0, e1, e2, e3, e4⟩, _⟩, ⟨⟨f0, f1, f2, f3, f4⟩, _⟩⟩ := hSw; go_simp; try (with_reducible rfl))
    try simp only [Act.put, List.getElem_toArray, List.getElem_cons_zero, List.getElem_cons_succ, List.setIfInBounds_toArray, List.set_cons_zero, List.set_cons_succ]
    refine wpAnyH_take (i := 14) (v := ?_) rfl (by kernel_rfl) (by kernel_rfl) (by kernel_rfl) (fun _ _ _ h => h) (Or.inl ⟨by rfl, ?_⟩) hH1 ?_
    rotate_left
    · (intro w hSw; go_simp; try (with_reducible rfl))
    try simp only [Act.put, List.getElem_toArray, List.getElem_cons_zero, List.getElem_cons_succ, List.setIfInBounds_toArray, List.set_cons_zero, List.set_cons_succ]
    refine wpAnyH_take (i := 15) (v := ?_) rfl (by kernel_rfl) (by kernel_rfl) (by kernel_rfl) (fun _ _ _ h => h) (Or.inl ⟨by rfl, ?_⟩) hH1 ?_
    rotate_left
    · (intro w hSw; obtain ⟨⟨s1, s2⟩, ⟨⟨e0, e1, e2, e3, e4⟩, _⟩, ⟨⟨f0, f1, f2, f3, f4⟩, _⟩⟩ := hSw; go_simp; try (with_reducible rfl))
    try simp only [Act.put, List.getElem_toArray, List.getElem_cons_zero, List.getElem_cons_succ, List.setIfInBounds_toArray, List.set_cons_zero, List.set_cons_succ]
    refine wpAnyH_take (i := 16) (v := ?_) rfl (by kernel_rfl) (by kernel_rfl) (by kernel_rfl) (fun _ _ _ h => h) (Or.inl ⟨by rfl, ?_⟩) hH1 ?_
    rotate_left
    · (intro w hSw; obtain ⟨⟨s1, s2⟩, ⟨⟨e0, e1, e2, e3, e4⟩, _⟩, ⟨⟨f0, f1, f2, f3, f4⟩, _⟩⟩ := hSw; go_simp; try (with_reducible rfl))
    try simp only [Act.put, List.getElem_toArray, List.getElem_cons_zero, List.getElem_cons_succ, List.setIfInBounds_toArray, List.set_cons_zero, List.set_cons_succ]
    refine wpAnyH_take (i := 17) (v := .bool false) rfl (by kernel_rfl) (by kernel_rfl) (by kernel_rfl) (fun _ _ _ h => h) (Or.inl ⟨by rfl, ?_⟩) hH1 ?_
    · (intro w hSw; go_simp; exact five_not HNE.out)
    try simp only [Act.put, List.getElem_toArray, List.getElem_cons_zero, List.getElem_cons_succ, List.setIfInBounds_toArray, List.set_cons_zero, List.set_cons_succ]
    refine wpAnyH_take (i := 18) (v := ?_) rfl (by kernel_rfl) (by kernel_rfl) (by kernel_rfl) (fun _ _ _ h => h) (Or.inl ⟨by rfl, ?_⟩) hH1 ?_
    rotate_left
    · (intro w hSw; go_simp; try (with_reducible rfl))
    try simp only [Act.put, List.getElem_toArray, List.getElem_cons_zero, List.getElem_cons_succ, List.setIfInBounds_toArray, List.set_cons_zero, List.set_cons_succ]
    refine wpAnyH_take (i := 19) (v := ?_) rfl (by kernel_rfl) (by kernel_rfl) (by kernel_rfl) (fun _ _ _ h => h) (Or.inl ⟨by rfl, ?_⟩) hH1 ?_
    rotate_left
    · (intro w hSw; go_simp; try (with_reducible rfl))
    try simp only [Act.put, List.getElem_toArray, List.getElem_cons_zero, List.getElem_cons_succ, List.setIfInBounds_toArray, List.set_cons_zero, List.set_cons_succ]
    refine wpAnyH_take (i := 20) (v := ?_) rfl (by kernel_rfl) (by kernel_rfl) (by kernel_rfl) (fun _ _ _ h => h) (Or.inl ⟨by rfl, ?_⟩) hH1 ?_
    rotate_left
    · (intro w hSw; go_simp; try (with_reducible rfl))
    try simp only [Act.put, List.getElem_toArray, List.getElem_cons_zero, List.getElem_cons_succ, List.setIfInBounds_toArray, List.set_cons_zero, List.set_cons_succ]
    refine wpAnyH_done (by kernel_rfl) ?_ _
    refine NoPanic.normal ?_
    go_wp2
    go_ret
    exact ⟨rfl, HB9.out⟩
end Go.Proofs.Ytphgngpdmkcnkaa
