/-
  AuditDecode walked.
-/
import Derived.Test.YtmhmaodnkifcaaaBytes
import Derived.Test.YtmhmaodnkifcaaaLawA5
import Derived.Test.YtmhmaodnkifcaaaMem2
namespace Go.Proofs.Ytmhmaodnkifcaaa
open Go.RowKit
set_option linter.unusedSimpArgs false
set_option linter.unusedVariables false

theorem op_app8 {w : World} {o : Oper} {a : Act} {K : Act → World → Prop} {Q : Exit → Act → World → Prop} (s x : Operand)
    (ho : o.op = .call { callee := .builtin .append, args := #[s, x], argTypes := #[38, 38] })
    (base : Nat) (A1 : Option Addr) (n c1 : Nat) (l1 : List UInt8) (hs : a.eval s = .slice A1 n c1) (hown : w.ownsRow base 5 1 (.slice A1 n c1) n (bys l1))
    (A2 : Option Addr) (B m c2 : Nat) (l2 : List UInt8) (hx : a.eval x = .slice A2 m c2) (hl : l2.length = m) (hsl : Sl w B A2 (bys l2)) (N : Nat) (hN : n + m = N) (hb : N ≤ 70368744177664) (hbase : base ≤ w.heap.size)
    (h : ∀ A' c' w', w'.ownsRow base 5 1 (.slice A' N c') N (bys (l1 ++ l2)) → w.grownBy w' (Value.slice A1 n c1).ownBlock → K (a.put o.dst (.slice A' N c')) w') : o.wp Try.prog a w K Q := by
  subst hN
  obtain ⟨i0, hi, hz0, hz1, hz2⟩ := info_parts info_u8
  refine wp_app s x 38 ho base 5 i0 (.int .u8 0) 1 1 Try.underlying38 hi hz0 hz1 hz2 rfl (by decide) _ n _ hs hown A2 B m c2 (bys l2) hx (by simp [hl]) hsl (bys_one _) (by unfold maxLen; omega) (by omega) hbase ?_
  intro A' c' w' h1 h2 _
  rw [← bys_append] at h1
  exact h A' c' w' h1 h2
theorem one_sl {w : World} {g : Nat} {c : UInt8} (h : Blk w g #[.int .u8 (c.toNat : Int)] 5) : Sl w (g + 1) (some ⟨g, 0, none⟩) (bys [c]) := by
  refine .inr ⟨g, 0, rfl, by omega, fun j u hu => ?_⟩
  rcases j with _ | j
  · simp [bys, u8v] at hu
    subst hu
    exact h.cell 0 rfl
  · simp [bys] at hu
theorem xor_u8 (a b : Int) : ∃ y : UInt8, bits .xor .u8 a b = (y.toNat : Int) := by
  have h : 0 ≤ bits .xor .u8 a b ∧ bits .xor .u8 a b < 256 := by
    show 0 ≤ IntKind.u8.wrap _ ∧ IntKind.u8.wrap _ < _
    rw [IntKind.wrap_u8]
    omega
  exact ⟨UInt8.ofNat (bits .xor .u8 a b).toNat, by simp; omega⟩
set_option maxRecDepth 100000 in
set_option maxHeartbeats 1000000 in
theorem same_any (A : Option Addr) (n c : Nat) (l : List UInt8) (w : World) (hn : l.length = n) (hc : n ≤ c) (hs : Sl w w.heap.size A (bys l)) (hm : n ≤ 100000) :
    Calls Try.prog 32 #[.slice A n c] w fun e w' => e = .returned (.bool true) ∧ Below w.heap.size w w' := by
  have HDE := hid (adec_any A n c l w hn hc hs hm)
  have HRD := hid (fun (W : World) (hW : Below w.heap.size w W) => rdecl_any A n c l W hn hc (hs.go hW) hm)
  have HSM := hid (show (resL l).1.length ≤ 1000000 by have := resL_len l; omega)
  obtain ⟨⟨xs, er⟩, hres⟩ : ∃ r, r = resL l := ⟨_, rfl⟩
  rw [← hres] at HDE HRD HSM
  have hxs := HSM.out
  clear hn hc hs hm hres
  go_enter Try.func32, Try.ntmps32
  go_wp2_with fail
  refine HDE.out.mono ?_
  rintro e w5 ⟨A5, c5, rfl, ho5, hb5⟩
  have HX5 := hid ho5
  have HB5 := hid hb5
  clear ho5 hb5
  go_wp2_with fail
  refine (HRD.out _ HB5.out).mono ?_
  rintro e w6 ⟨A6, c6, rfl, ho6, hb6⟩
  have HX6 := hid (own_below HX5.out hb6)
  have HY6 := hid ho6
  have HB6 := hid (below_go HB5.out hb6)
  clear ho6 hb6
  have HSE := hid (samee_any A5 A6 xs.length c5 c6 _ _ xs w6 rfl (Sl.of_own HX6.out) (Sl.of_own HY6.out) (Nat.le_refl _) (Nat.le_refl _) hxs)
  go_wp2_with fail
  refine HSE.out.mono ?_
  rintro e w8 ⟨rfl, hb8⟩
  have HB8 := hid (below_go HB6.out hb8)
  clear hb8
  go_wp2_with fail
  go_ret
  exact ⟨rfl, HB8.out⟩

set_option maxRecDepth 100000 in
set_option maxHeartbeats 2000000 in
theorem adecode_yes (R : Option Addr) (m cm : Nat) (raw : List UInt8) (A : Option Addr) (n c : Nat) (zs : List Int) (un at_ how ch : Nat) (w : World) (hr : raw.length = m) (hrc : m ≤ cm) (hrs : Sl w w.heap.size R (bys raw)) (hz : ∀ z ∈ zs, 0 ≤ z ∧ z < 65536) (hn : zs.length = n) (hc : n ≤ c) (hs : Sl w w.heap.size A (nums .u16 zs))
    (hat : at_ < 65536) (hch : ch < 256) (h80 : m ≤ 120) :
    Calls Try.prog 9 #[.slice R m cm, .slice A n c, .int .u8 un, .int .u16 at_, .int .u8 how, .int .u8 ch] w fun e w' => e = .returned (.bool true) ∧ Below w.heap.size w w' := by
  have HO := hid (of_any A n c 100 zs w hz hn hc hs (by omega))
  have HR := hid hr
  have HRC := hid hrc
  have HRS := hid hrs
  clear hz hn hc hs hr hrc hrs
  obtain ⟨cb, rfl⟩ : ∃ cb : UInt8, cb.toNat = ch := ⟨UInt8.ofNat ch, by simp; omega⟩
  obtain ⟨m8, hm8⟩ : ∃ m8 : Nat, m8 = un % 8 := ⟨_, rfl⟩
  have hm81 : (un : Int).tmod 8 = (m8 : Int) := by rw [hm8]; rfl
  have hm82 : m8 < 8 := by omega
  clear hm8
  go_enter Try.func9, Try.ntmps9
  go_wp2_with fail
  refine HO.out.mono ?_
  rintro e w1 ⟨g, N, rfl, hN, ht1, hb1⟩
  have HT1 := hid ht1
  have HB1 := hid hb1
  have HEV := hid (events_any _ _ g N 0 m8 w1 ht1 (by omega) (by omega))
  clear ht1 hb1 HO
  go_wp2_with fail
  refine HEV.out.mono ?_
  rintro e w2 ⟨es, A2, c2, rfl, hes, he2, ho2, hg2⟩
  have HB2 := hid (made_below HB1.out HB1.out.size hg2 (Nat.le_refl _) HT1.out)
  have HI := hid (bytesof_any A2 es.length c2 _ es w2 rfl (Sl.of_own ho2) (Nat.le_refl _) he2.right (by omega))
  have HL := hid (logB_len es fStart he2.right)
  obtain ⟨b, hb⟩ : ∃ b, b = logB fStart es := ⟨_, rfl⟩
  obtain ⟨q, hq⟩ : ∃ q, q = b.length := ⟨_, rfl⟩
  rw [← hb] at HI HL
  rw [← hq] at HI HL
  have HQ := hid hq
  have hq50 : q ≤ 560 := by have := HL.out; omega
  clear hg2 he2 ho2 hb hq hm81 HEV
  go_wp2_with fail
  refine HI.out.mono ?_
  rintro e w3 ⟨A3, c3, rfl, ho3, hb3⟩
  have HO3 := hid ho3
  have HB3 := hid (below_go HB2.out hb3)
  clear ho3 hb3 HI
  have hqc := own_le HO3.out
  by_cases hq0 : q = 0
  · subst hq0
    go_wp2_with fail
    refine (awake_any _).mono ?_
    rintro e w7 ⟨rfl, hb7⟩
    have HB7 := hid (below_go HB3.out hb7)
    have HO7 := hid (own_below HO3.out hb7)
    clear hb7
    go_wp2_with fail
    refine (same_any R m cm raw w7 HR.out HRC.out (HRS.out.go HB7.out) (by omega)).mono ?_
    rintro e w8 ⟨rfl, hb8⟩
    have HB8 := hid (below_go HB7.out hb8)
    have HO8 := hid (own_below HO7.out hb8)
    clear hb8
    go_wp2_with fail
    refine (same_any A3 0 c3 b w8 HQ.out.symm (own_le HO8.out) (Sl.of_own HO8.out) (by omega)).mono ?_
    rintro e w9 ⟨rfl, hb9⟩
    have HB9 := hid (below_go HB8.out hb9)
    clear hb9
    go_wp2
    go_ret
    exact ⟨rfl, HB9.out⟩
  have hq0 : 0 < q := by omega
  obtain ⟨j, hj⟩ : ∃ j, j = how % 4 := ⟨_, rfl⟩
  have hjm : (how : Int).tmod 4 = (j : Int) := by rw [hj]; rfl
  have hj4 : j = 3 ∨ j = 0 ∨ j = 1 ∨ j = 2 := by omega
  have HJ4 := hid hj4
  clear hj hj4
  obtain ⟨k, hk⟩ : ∃ k, k = at_ % q := ⟨_, rfl⟩
  have hkq : k < q := by rw [hk]; exact Nat.mod_lt _ hq0
  have hkm : (at_ : Int).tmod (q : Int) = (k : Int) := by rw [hk]; exact (Int.ofNat_tmod at_ q).symm
  have hq0' : ¬ (q : Int) = 0 := by omega
  clear hk
  rcases HJ4.out with rfl | rfl | rfl | rfl
  · go_wp2_with fail
    refine (awake_any _).mono ?_
    rintro e w7 ⟨rfl, hb7⟩
    have HB7 := hid (below_go HB3.out hb7)
    have HO7 := hid (own_below HO3.out hb7)
    clear hb7
    go_wp2_with fail
    refine (same_any R m cm raw w7 HR.out HRC.out (HRS.out.go HB7.out) (by omega)).mono ?_
    rintro e w8 ⟨rfl, hb8⟩
    have HB8 := hid (below_go HB7.out hb8)
    have HO8 := hid (own_below HO7.out hb8)
    clear hb8
    go_wp2_with fail
    refine (same_any A3 q c3 b w8 HQ.out.symm (own_le HO8.out) (Sl.of_own HO8.out) (by omega)).mono ?_
    rintro e w9 ⟨rfl, hb9⟩
    have HB9 := hid (below_go HB8.out hb9)
    clear hb9
    go_wp2
    go_ret
    exact ⟨rfl, HB9.out⟩
  · obtain ⟨G, rfl, hG1, hG2⟩ := own_at HO3.out hq0
    have hck := own_cell (y := b[k]'(by rw [← HQ.out]; exact hkq)) HO3.out hkq (List.getElem?_eq_getElem _)
    have hfk : w3.frozen? ⟨G, k, none⟩ = false := HO3.out.frozenAt k
    obtain ⟨y, hy⟩ := xor_u8 ((b[k]'(by rw [← HQ.out]; exact hkq)).toNat : Int) (cb.toNat : Int)
    have HO4 := hid (own_set HO3.out k y)
    have HB4 := hid (show Below w.heap.size w (w3.setCell ⟨G, k, none⟩ (.int .u8 (y.toNat : Int))) from HB3.out.setCell (Nat.le_trans HB2.out.size hG1) _)
    go_wp2_with fail
    clear hck hfk hy
    obtain ⟨w4, hw4⟩ : ∃ w4, w4 = w3.setCell ⟨G, k, none⟩ (.int .u8 (y.toNat : Int)) := ⟨_, rfl⟩
    rw [← hw4] at HO4 HB4
    simp only [← hw4]
    clear hw4
    refine (awake_any _).mono ?_
    rintro e w7 ⟨rfl, hb7⟩
    have HB7 := hid (below_go HB4.out hb7)
    have HO7 := hid (own_below HO4.out hb7)
    clear hb7
    go_wp2_with fail
    refine (same_any R m cm raw w7 HR.out HRC.out (HRS.out.go HB7.out) (by omega)).mono ?_
    rintro e w8 ⟨rfl, hb8⟩
    have HB8 := hid (below_go HB7.out hb8)
    have HO8 := hid (own_below HO7.out hb8)
    clear hb8
    go_wp2_with fail
    refine (same_any (some ⟨G, 0, none⟩) q c3 (b.set k y) w8 (by rw [List.length_set]; exact HQ.out.symm) (own_le HO8.out) (Sl.of_own HO8.out) (by omega)).mono ?_
    rintro e w9 ⟨rfl, hb9⟩
    have HB9 := hid (below_go HB8.out hb9)
    clear hb9
    go_wp2
    go_ret
    exact ⟨rfl, HB9.out⟩
  · obtain ⟨G, rfl, hG1, hG2⟩ := own_at HO3.out hq0
    go_wp2_with fail
    refine wp_region_noPanic ?_
    refine wp_region_held_drew (S := fun _ => True) (by kernel_rfl) trivial (fun hH0 => ?_)
    obtain ⟨v0, hv0⟩ : ∃ v0, v0 = w3.drew := ⟨_, rfl⟩
    have HL0 := hid (show Below w3.heap.size w3 v0 by rw [hv0]; exact (Below.refl _ _).drew)
    simp only [← hv0]
    clear hv0
    have hkc : ¬ c3 = k := by omega
    have hk1 : (k : Int) ≤ (q : Int) := by omega
    have hk2 : (k : Int) ≤ (c3 : Int) := by omega
    have hk3 : (q : Int) ≤ (c3 : Int) := by omega
    have HDR := hid (show Sl w3 w3.heap.size (some ⟨G, k, none⟩) (bys (b.drop k)) by
      have := (Sl.of_own HO3.out).cut (k := k) (c := c3) (by rw [bys_length, ← HQ.out]; exact hqc) 1 rfl
      rw [← bys_drop, if_neg hkc] at this
      by_cases hk0 : k = 0
      · subst hk0
        simpa [Addr.add] using this
      · simpa [Addr.add, hk0] using this)
    refine wpAnyH_take (i := 1) (v := ?_) rfl (by kernel_rfl) (by kernel_rfl) (by kernel_rfl) (fun _ _ _ h => h) (Or.inl ⟨by rfl, ?_⟩) hH0 ?_
    rotate_left
    · (intro w hSw; go_simp; try (with_reducible rfl))
    try simp only [Act.put, List.getElem_toArray, List.getElem_cons_zero, List.getElem_cons_succ, List.setIfInBounds_toArray, List.set_cons_zero, List.set_cons_succ]
    refine wpAnyH_take (i := 2) (v := ?_) rfl (by kernel_rfl) (by kernel_rfl) (by kernel_rfl) (fun _ _ _ h => h) (Or.inl ⟨by rfl, ?_⟩) hH0 ?_
    rotate_left
    · (intro w hSw; go_simp; try (with_reducible rfl))
    try simp only [Act.put, List.getElem_toArray, List.getElem_cons_zero, List.getElem_cons_succ, List.setIfInBounds_toArray, List.set_cons_zero, List.set_cons_succ]
    refine wpAnyH_take (i := 3) (v := ?_) rfl (by kernel_rfl) (by kernel_rfl) (by kernel_rfl) (fun _ _ _ h => h) (Or.inl ⟨by rfl, ?_⟩) hH0 ?_
    rotate_left
    · (intro w hSw; go_simp; try (with_reducible rfl))
    try simp only [Act.put, List.getElem_toArray, List.getElem_cons_zero, List.getElem_cons_succ, List.setIfInBounds_toArray, List.set_cons_zero, List.set_cons_succ]
    refine wpAnyH_take (i := 5) (v := ?_) rfl (by kernel_rfl) (by kernel_rfl) (by kernel_rfl) (fun _ _ _ h => h) (Or.inl ⟨by rfl, ?_⟩) hH0 ?_
    rotate_left
    · (intro w hSw; go_simp; try (with_reducible rfl))
    try simp only [Act.put, List.getElem_toArray, List.getElem_cons_zero, List.getElem_cons_succ, List.setIfInBounds_toArray, List.set_cons_zero, List.set_cons_succ]
    refine wpAnyH_take (i := 8) (v := ?_) rfl (by kernel_rfl) (by kernel_rfl) (by kernel_rfl) (fun _ _ _ h => h) (Or.inl ⟨by rfl, ?_⟩) hH0 ?_
    rotate_left
    · (intro w hSw; go_simp; try (with_reducible rfl))
    try simp only [Act.put, List.getElem_toArray, List.getElem_cons_zero, List.getElem_cons_succ, List.setIfInBounds_toArray, List.set_cons_zero, List.set_cons_succ]
    refine wpAnyH_take (i := 9) (v := ?_) rfl (by kernel_rfl) (by kernel_rfl) (by kernel_rfl) (fun _ _ _ h => h) (Or.inl ⟨by rfl, ?_⟩) hH0 ?_
    rotate_left
    · (intro w hSw; go_simp; try (with_reducible rfl))
    try simp only [Act.put, List.getElem_toArray, List.getElem_cons_zero, List.getElem_cons_succ, List.setIfInBounds_toArray, List.set_cons_zero, List.set_cons_succ]
    refine wpAnyH_take (i := 10) (v := ?_) rfl (by kernel_rfl) (by kernel_rfl) (by kernel_rfl) (fun _ _ _ h => h) (Or.inl ⟨by rfl, ?_⟩) hH0 ?_
    rotate_left
    · (intro w hSw; go_simp; try (with_reducible rfl))
    try simp only [Act.put, List.getElem_toArray, List.getElem_cons_zero, List.getElem_cons_succ, List.setIfInBounds_toArray, List.set_cons_zero, List.set_cons_succ]
    refine wpAnyH_ready (rs := [0, 6]) (by kernel_rfl) (by simp) ?_
    refine AllReadyH.cons rfl (fun K hK => ?_) (AllReadyH.cons rfl (fun K hK => ?_) AllReadyH.nil)
    · simp only [List.getElem_toArray, List.getElem_cons_zero]
      go_simp
      refine hK.out _ _ trivial (fun hH1 => ?_)
      clear hK K
      try simp only [Act.put, List.setIfInBounds_toArray, List.set_cons_zero, List.set_cons_succ]
      obtain ⟨gE, hgE⟩ : ∃ g, g = v0.heap.size := ⟨_, rfl⟩
      have HL1 := hid (HL0.out.trans ((below_new v0 #[] 5).mono HL0.out.size))
      have HE := hid (own_empty v0 5 w3.heap.size HL0.out.size)
      rw [← hgE] at HE
      simp only [← hgE]
      obtain ⟨v1, hvv⟩ : ∃ v, v = v0.alloc (.cells #[] 5) := ⟨_, rfl⟩
      simp only [← hvv] at HL1 HE ⊢
      have HEL := hid (show gE < v1.heap.size by rw [hvv, hgE]; simp)
      clear hvv hgE
      refine wpAnyH_ready (rs := [4, 6]) (by kernel_rfl) (by simp) ?_
      refine AllReadyH.cons rfl (fun K hK => ?_) (AllReadyH.cons rfl (fun K hK => ?_) AllReadyH.nil)
      · simp only [List.getElem_toArray, List.getElem_cons_zero, List.getElem_cons_succ]
        rw [if_pos (by rfl)]
        refine op_app8 (.tmp 49) (.tmp 52) rfl w3.heap.size (some ⟨gE, 0, none⟩) (0) 0 ([]) rfl HE.out (some ⟨G, 0, none⟩) _ (k) (c3) (b.take k) rfl (by rw [List.length_take, ← HQ.out]; omega) (by rw [bys_take]; exact ((Sl.of_own HO3.out).take k).below HL1.out) (k) (by omega) (by omega) HL1.out.size ?_
        intro B4 d4 v2 ho hg
        have HL2 := hid (HL1.out.grown hg HL1.out.size (own_lt HE.out))
        have HR4 := hid ho
        clear ho hg
        refine hK.out _ _ trivial (fun hH2 => ?_)
        clear hK K
        try simp only [Act.put, List.setIfInBounds_toArray, List.set_cons_zero, List.set_cons_succ]
        refine wpAnyH_ready (rs := [6]) (by kernel_rfl) (by simp) ?_
        refine AllReadyH.cons rfl (fun K hK => ?_) AllReadyH.nil
        simp only [List.getElem_toArray, List.getElem_cons_zero, List.getElem_cons_succ]
        go_simp
        refine hK.out _ _ trivial (fun hH3 => ?_)
        clear hK K
        try simp only [Act.put, List.setIfInBounds_toArray, List.set_cons_zero, List.set_cons_succ]
        obtain ⟨gC, hgC⟩ : ∃ g, g = v2.heap.size := ⟨_, rfl⟩
        have HL3 := hid (HL2.out.trans ((below_new v2 #[.int .u8 (cb.toNat : Int)] 5).mono HL2.out.size))
        have HC := hid (show Blk (v2.alloc (.cells #[.int .u8 (cb.toNat : Int)] 5)) v2.heap.size #[.int .u8 (cb.toNat : Int)] 5 from heap_alloc_new v2 _)
        rw [← hgC] at HC
        have HR4 := hid (own_below HR4.out (below_new v2 #[.int .u8 (cb.toNat : Int)] 5))
        simp only [← hgC]
        obtain ⟨v3, hvv⟩ : ∃ v, v = v2.alloc (.cells #[.int .u8 (cb.toNat : Int)] 5) := ⟨_, rfl⟩
        simp only [← hvv] at HL3 HR4 HC ⊢
        have HC0 := HC
        clear hvv hgC
        refine wpAnyH_ready (rs := [7]) (by kernel_rfl) (by simp) ?_
        refine AllReadyH.cons rfl (fun K hK => ?_) AllReadyH.nil
        simp only [List.getElem_toArray, List.getElem_cons_zero, List.getElem_cons_succ]
        rw [if_pos (by rfl)]
        refine op_app8 (.tmp 53) (.tmp 55) rfl w3.heap.size B4 (k) d4 (b.take k) rfl HR4.out (some ⟨gC, 0, none⟩) _ (1) (1) ([cb]) rfl rfl (one_sl HC.out) (k + 1) (by omega) (by omega) HL3.out.size ?_
        intro B7 d7 v4 ho hg
        have HL4 := hid (HL3.out.grown hg HL3.out.size (own_lt HR4.out))
        have HR7 := hid ho
        clear ho hg
        refine hK.out _ _ trivial (fun hH4 => ?_)
        clear hK K
        try simp only [Act.put, List.setIfInBounds_toArray, List.set_cons_zero, List.set_cons_succ]
        refine wpAnyH_ready (rs := [11]) (by kernel_rfl) (by simp) ?_
        refine AllReadyH.cons rfl (fun K hK => ?_) AllReadyH.nil
        simp only [List.getElem_toArray, List.getElem_cons_zero, List.getElem_cons_succ]
        rw [if_pos (by rfl)]
        refine op_app8 (.tmp 56) (.tmp 59) rfl w3.heap.size B7 (k + 1) d7 (b.take k ++ [cb]) rfl HR7.out (some ⟨G, k, none⟩) _ (q - k) (c3 - k) (b.drop k) rfl (by rw [List.length_drop, ← HQ.out]) (HDR.out.below HL4.out) (q + 1) (by omega) (by omega) HL4.out.size ?_
        intro B11 d11 v5 ho hg
        have HL5 := hid (HL4.out.grown hg HL4.out.size (own_lt HR7.out))
        have HR11 := hid ho
        clear ho hg
        refine hK.out _ _ trivial (fun hH5 => ?_)
        clear hK K
        try simp only [Act.put, List.setIfInBounds_toArray, List.set_cons_zero, List.set_cons_succ]
        refine wpAnyH_take (i := 12) (v := ?_) rfl (by kernel_rfl) (by kernel_rfl) (by kernel_rfl) (fun _ _ _ h => h) (Or.inl ⟨by rfl, ?_⟩) hH5 ?_
        rotate_left
        · (intro w hSw; go_simp; try (with_reducible rfl))
        try simp only [Act.put, List.getElem_toArray, List.getElem_cons_zero, List.getElem_cons_succ, List.setIfInBounds_toArray, List.set_cons_zero, List.set_cons_succ]
        refine wpAnyH_done (by kernel_rfl) ?_ _
        refine NoPanic.normal ?_
        go_wp2_with fail
        have HBW := hid (HB3.out.trans (HL5.out.mono HB3.out.size))
        refine (awake_any _).mono ?_
        rintro e w7 ⟨rfl, hb7⟩
        have HB7 := hid (below_go HBW.out hb7)
        have HO7 := hid (own_below HR11.out hb7)
        clear hb7
        go_wp2_with fail
        refine (same_any R m cm raw w7 HR.out HRC.out (HRS.out.go HB7.out) (by omega)).mono ?_
        rintro e w8 ⟨rfl, hb8⟩
        have HB8 := hid (below_go HB7.out hb8)
        have HO8 := hid (own_below HO7.out hb8)
        clear hb8
        go_wp2_with fail
        refine (same_any B11 (q + 1) d11 ((b.take k ++ [cb]) ++ b.drop k) w8 (by simp [← HQ.out] <;> omega) (own_le HO8.out) (Sl.of_own HO8.out) (by omega)).mono ?_
        rintro e w9 ⟨rfl, hb9⟩
        have HB9 := hid (below_go HB8.out hb9)
        clear hb9
        go_wp2
        go_ret
        exact ⟨rfl, HB9.out⟩
      · simp only [List.getElem_toArray, List.getElem_cons_zero, List.getElem_cons_succ]
        go_simp
        refine hK.out _ _ trivial (fun hH2 => ?_)
        clear hK K
        try simp only [Act.put, List.setIfInBounds_toArray, List.set_cons_zero, List.set_cons_succ]
        obtain ⟨gC, hgC⟩ : ∃ g, g = v1.heap.size := ⟨_, rfl⟩
        have HL2 := hid (HL1.out.trans ((below_new v1 #[.int .u8 (cb.toNat : Int)] 5).mono HL1.out.size))
        have HC := hid (show Blk (v1.alloc (.cells #[.int .u8 (cb.toNat : Int)] 5)) v1.heap.size #[.int .u8 (cb.toNat : Int)] 5 from heap_alloc_new v1 _)
        rw [← hgC] at HC
        have HE := hid (own_below HE.out (below_new v1 #[.int .u8 (cb.toNat : Int)] 5))
        have hCE : gC ≠ gE := by have := HEL.out; omega
        simp only [← hgC]
        obtain ⟨v2, hvv⟩ : ∃ v, v = v1.alloc (.cells #[.int .u8 (cb.toNat : Int)] 5) := ⟨_, rfl⟩
        simp only [← hvv] at HL2 HE HC ⊢
        have HC0 := HC
        clear hvv hgC
        refine wpAnyH_ready (rs := [4]) (by kernel_rfl) (by simp) ?_
        refine AllReadyH.cons rfl (fun K hK => ?_) AllReadyH.nil
        simp only [List.getElem_toArray, List.getElem_cons_zero, List.getElem_cons_succ]
        rw [if_pos (by rfl)]
        refine op_app8 (.tmp 49) (.tmp 52) rfl w3.heap.size (some ⟨gE, 0, none⟩) (0) 0 ([]) rfl HE.out (some ⟨G, 0, none⟩) _ (k) (c3) (b.take k) rfl (by rw [List.length_take, ← HQ.out]; omega) (by rw [bys_take]; exact ((Sl.of_own HO3.out).take k).below HL2.out) (k) (by omega) (by omega) HL2.out.size ?_
        intro B4 d4 v3 ho hg
        have HL3 := hid (HL2.out.grown hg HL2.out.size (own_lt HE.out))
        have HR4 := hid ho
        have HC := hid (show Blk v3 gC #[.int .u8 (cb.toNat : Int)] 5 from (hg.block gC HC.out.lt (fun e => hCE (by injection e))).trans HC.out)
        clear ho hg
        refine hK.out _ _ trivial (fun hH3 => ?_)
        clear hK K
        try simp only [Act.put, List.setIfInBounds_toArray, List.set_cons_zero, List.set_cons_succ]
        refine wpAnyH_ready (rs := [7]) (by kernel_rfl) (by simp) ?_
        refine AllReadyH.cons rfl (fun K hK => ?_) AllReadyH.nil
        simp only [List.getElem_toArray, List.getElem_cons_zero, List.getElem_cons_succ]
        rw [if_pos (by rfl)]
        refine op_app8 (.tmp 53) (.tmp 55) rfl w3.heap.size B4 (k) d4 (b.take k) rfl HR4.out (some ⟨gC, 0, none⟩) _ (1) (1) ([cb]) rfl rfl (one_sl HC.out) (k + 1) (by omega) (by omega) HL3.out.size ?_
        intro B7 d7 v4 ho hg
        have HL4 := hid (HL3.out.grown hg HL3.out.size (own_lt HR4.out))
        have HR7 := hid ho
        clear ho hg
        refine hK.out _ _ trivial (fun hH4 => ?_)
        clear hK K
        try simp only [Act.put, List.setIfInBounds_toArray, List.set_cons_zero, List.set_cons_succ]
        refine wpAnyH_ready (rs := [11]) (by kernel_rfl) (by simp) ?_
        refine AllReadyH.cons rfl (fun K hK => ?_) AllReadyH.nil
        simp only [List.getElem_toArray, List.getElem_cons_zero, List.getElem_cons_succ]
        rw [if_pos (by rfl)]
        refine op_app8 (.tmp 56) (.tmp 59) rfl w3.heap.size B7 (k + 1) d7 (b.take k ++ [cb]) rfl HR7.out (some ⟨G, k, none⟩) _ (q - k) (c3 - k) (b.drop k) rfl (by rw [List.length_drop, ← HQ.out]) (HDR.out.below HL4.out) (q + 1) (by omega) (by omega) HL4.out.size ?_
        intro B11 d11 v5 ho hg
        have HL5 := hid (HL4.out.grown hg HL4.out.size (own_lt HR7.out))
        have HR11 := hid ho
        clear ho hg
        refine hK.out _ _ trivial (fun hH5 => ?_)
        clear hK K
        try simp only [Act.put, List.setIfInBounds_toArray, List.set_cons_zero, List.set_cons_succ]
        refine wpAnyH_take (i := 12) (v := ?_) rfl (by kernel_rfl) (by kernel_rfl) (by kernel_rfl) (fun _ _ _ h => h) (Or.inl ⟨by rfl, ?_⟩) hH5 ?_
        rotate_left
        · (intro w hSw; go_simp; try (with_reducible rfl))
        try simp only [Act.put, List.getElem_toArray, List.getElem_cons_zero, List.getElem_cons_succ, List.setIfInBounds_toArray, List.set_cons_zero, List.set_cons_succ]
        refine wpAnyH_done (by kernel_rfl) ?_ _
        refine NoPanic.normal ?_
        go_wp2_with fail
        have HBW := hid (HB3.out.trans (HL5.out.mono HB3.out.size))
        refine (awake_any _).mono ?_
        rintro e w7 ⟨rfl, hb7⟩
        have HB7 := hid (below_go HBW.out hb7)
        have HO7 := hid (own_below HR11.out hb7)
        clear hb7
        go_wp2_with fail
        refine (same_any R m cm raw w7 HR.out HRC.out (HRS.out.go HB7.out) (by omega)).mono ?_
        rintro e w8 ⟨rfl, hb8⟩
        have HB8 := hid (below_go HB7.out hb8)
        have HO8 := hid (own_below HO7.out hb8)
        clear hb8
        go_wp2_with fail
        refine (same_any B11 (q + 1) d11 ((b.take k ++ [cb]) ++ b.drop k) w8 (by simp [← HQ.out] <;> omega) (own_le HO8.out) (Sl.of_own HO8.out) (by omega)).mono ?_
        rintro e w9 ⟨rfl, hb9⟩
        have HB9 := hid (below_go HB8.out hb9)
        clear hb9
        go_wp2
        go_ret
        exact ⟨rfl, HB9.out⟩
    · simp only [List.getElem_toArray, List.getElem_cons_zero, List.getElem_cons_succ]
      go_simp
      refine hK.out _ _ trivial (fun hH1 => ?_)
      clear hK K
      try simp only [Act.put, List.setIfInBounds_toArray, List.set_cons_zero, List.set_cons_succ]
      obtain ⟨gC, hgC⟩ : ∃ g, g = v0.heap.size := ⟨_, rfl⟩
      have HL1 := hid (HL0.out.trans ((below_new v0 #[.int .u8 (cb.toNat : Int)] 5).mono HL0.out.size))
      have HC := hid (show Blk (v0.alloc (.cells #[.int .u8 (cb.toNat : Int)] 5)) v0.heap.size #[.int .u8 (cb.toNat : Int)] 5 from heap_alloc_new v0 _)
      rw [← hgC] at HC
      simp only [← hgC]
      obtain ⟨v1, hvv⟩ : ∃ v, v = v0.alloc (.cells #[.int .u8 (cb.toNat : Int)] 5) := ⟨_, rfl⟩
      simp only [← hvv] at HL1 HC ⊢
      have HC0 := HC
      clear hvv hgC
      refine wpAnyH_ready (rs := [0]) (by kernel_rfl) (by simp) ?_
      refine AllReadyH.cons rfl (fun K hK => ?_) AllReadyH.nil
      simp only [List.getElem_toArray, List.getElem_cons_zero]
      go_simp
      refine hK.out _ _ trivial (fun hH2 => ?_)
      clear hK K
      try simp only [Act.put, List.setIfInBounds_toArray, List.set_cons_zero, List.set_cons_succ]
      obtain ⟨gE, hgE⟩ : ∃ g, g = v1.heap.size := ⟨_, rfl⟩
      have HL2 := hid (HL1.out.trans ((below_new v1 #[] 5).mono HL1.out.size))
      have HE := hid (own_empty v1 5 w3.heap.size HL1.out.size)
      have HC := hid (Blk.below HC.out (below_new v1 #[] 5))
      have hCE : gC ≠ gE := by have := HC0.out.lt; omega
      rw [← hgE] at HE
      simp only [← hgE]
      obtain ⟨v2, hvv⟩ : ∃ v, v = v1.alloc (.cells #[] 5) := ⟨_, rfl⟩
      simp only [← hvv] at HL2 HE HC ⊢
      have HEL := hid (show gE < v2.heap.size by rw [hvv, hgE]; simp)
      clear hvv hgE
      refine wpAnyH_ready (rs := [4]) (by kernel_rfl) (by simp) ?_
      refine AllReadyH.cons rfl (fun K hK => ?_) AllReadyH.nil
      simp only [List.getElem_toArray, List.getElem_cons_zero, List.getElem_cons_succ]
      rw [if_pos (by rfl)]
      refine op_app8 (.tmp 49) (.tmp 52) rfl w3.heap.size (some ⟨gE, 0, none⟩) (0) 0 ([]) rfl HE.out (some ⟨G, 0, none⟩) _ (k) (c3) (b.take k) rfl (by rw [List.length_take, ← HQ.out]; omega) (by rw [bys_take]; exact ((Sl.of_own HO3.out).take k).below HL2.out) (k) (by omega) (by omega) HL2.out.size ?_
      intro B4 d4 v3 ho hg
      have HL3 := hid (HL2.out.grown hg HL2.out.size (own_lt HE.out))
      have HR4 := hid ho
      have HC := hid (show Blk v3 gC #[.int .u8 (cb.toNat : Int)] 5 from (hg.block gC HC.out.lt (fun e => hCE (by injection e))).trans HC.out)
      clear ho hg
      refine hK.out _ _ trivial (fun hH3 => ?_)
      clear hK K
      try simp only [Act.put, List.setIfInBounds_toArray, List.set_cons_zero, List.set_cons_succ]
      refine wpAnyH_ready (rs := [7]) (by kernel_rfl) (by simp) ?_
      refine AllReadyH.cons rfl (fun K hK => ?_) AllReadyH.nil
      simp only [List.getElem_toArray, List.getElem_cons_zero, List.getElem_cons_succ]
      rw [if_pos (by rfl)]
      refine op_app8 (.tmp 53) (.tmp 55) rfl w3.heap.size B4 (k) d4 (b.take k) rfl HR4.out (some ⟨gC, 0, none⟩) _ (1) (1) ([cb]) rfl rfl (one_sl HC.out) (k + 1) (by omega) (by omega) HL3.out.size ?_
      intro B7 d7 v4 ho hg
      have HL4 := hid (HL3.out.grown hg HL3.out.size (own_lt HR4.out))
      have HR7 := hid ho
      clear ho hg
      refine hK.out _ _ trivial (fun hH4 => ?_)
      clear hK K
      try simp only [Act.put, List.setIfInBounds_toArray, List.set_cons_zero, List.set_cons_succ]
      refine wpAnyH_ready (rs := [11]) (by kernel_rfl) (by simp) ?_
      refine AllReadyH.cons rfl (fun K hK => ?_) AllReadyH.nil
      simp only [List.getElem_toArray, List.getElem_cons_zero, List.getElem_cons_succ]
      rw [if_pos (by rfl)]
      refine op_app8 (.tmp 56) (.tmp 59) rfl w3.heap.size B7 (k + 1) d7 (b.take k ++ [cb]) rfl HR7.out (some ⟨G, k, none⟩) _ (q - k) (c3 - k) (b.drop k) rfl (by rw [List.length_drop, ← HQ.out]) (HDR.out.below HL4.out) (q + 1) (by omega) (by omega) HL4.out.size ?_
      intro B11 d11 v5 ho hg
      have HL5 := hid (HL4.out.grown hg HL4.out.size (own_lt HR7.out))
      have HR11 := hid ho
      clear ho hg
      refine hK.out _ _ trivial (fun hH5 => ?_)
      clear hK K
      try simp only [Act.put, List.setIfInBounds_toArray, List.set_cons_zero, List.set_cons_succ]
      refine wpAnyH_take (i := 12) (v := ?_) rfl (by kernel_rfl) (by kernel_rfl) (by kernel_rfl) (fun _ _ _ h => h) (Or.inl ⟨by rfl, ?_⟩) hH5 ?_
      rotate_left
      · (intro w hSw; go_simp; try (with_reducible rfl))
      try simp only [Act.put, List.getElem_toArray, List.getElem_cons_zero, List.getElem_cons_succ, List.setIfInBounds_toArray, List.set_cons_zero, List.set_cons_succ]
      refine wpAnyH_done (by kernel_rfl) ?_ _
      refine NoPanic.normal ?_
      go_wp2_with fail
      have HBW := hid (HB3.out.trans (HL5.out.mono HB3.out.size))
      refine (awake_any _).mono ?_
      rintro e w7 ⟨rfl, hb7⟩
      have HB7 := hid (below_go HBW.out hb7)
      have HO7 := hid (own_below HR11.out hb7)
      clear hb7
      go_wp2_with fail
      refine (same_any R m cm raw w7 HR.out HRC.out (HRS.out.go HB7.out) (by omega)).mono ?_
      rintro e w8 ⟨rfl, hb8⟩
      have HB8 := hid (below_go HB7.out hb8)
      have HO8 := hid (own_below HO7.out hb8)
      clear hb8
      go_wp2_with fail
      refine (same_any B11 (q + 1) d11 ((b.take k ++ [cb]) ++ b.drop k) w8 (by simp [← HQ.out] <;> omega) (own_le HO8.out) (Sl.of_own HO8.out) (by omega)).mono ?_
      rintro e w9 ⟨rfl, hb9⟩
      have HB9 := hid (below_go HB8.out hb9)
      clear hb9
      go_wp2
      go_ret
      exact ⟨rfl, HB9.out⟩
  · obtain ⟨G, rfl, hG1, hG2⟩ := own_at HO3.out hq0
    go_wp2_with fail
    clear hkm hjm hq0'
    have hkq1 : k + 1 ≤ q := hkq
    by_cases hkc : c3 = k + 1
    · have HKC := hid hkc
      have hkt : (c3 = k + 1) = True := eq_true hkc
      have hi1 : (0 : Int) ≤ (k : Int) + 1 := by omega
      have hi2 : (k : Int) + 1 ≤ (q : Int) := by omega
      have hi3 : (k : Int) + 1 ≤ (c3 : Int) := by omega
      clear hkc
      refine wp_region_noPanic ?_
      refine wp_region_held_drew (S := fun _ => True) (by kernel_rfl) trivial (fun hH0 => ?_)
      obtain ⟨v0, hv0⟩ : ∃ v0, v0 = w3.drew := ⟨_, rfl⟩
      have HL0 := hid (show Below w3.heap.size w3 v0 by rw [hv0]; exact (Below.refl _ _).drew)
      simp only [← hv0]
      clear hv0
      have hk1 : (k : Int) ≤ (q : Int) := by omega
      have hk2 : (k : Int) ≤ (c3 : Int) := by omega
      have hk3 : (q : Int) ≤ (c3 : Int) := by omega
      have HDR := hid (show Sl w3 w3.heap.size (some ⟨G, 0, none⟩) (bys (b.drop (k + 1))) by
        have := (Sl.of_own HO3.out).cut (k := k + 1) (c := c3) (by rw [bys_length, ← HQ.out]; exact hqc) 1 rfl
        rw [← bys_drop, if_pos HKC.out] at this
        exact this)
      have hw1 : IntKind.i64.wrap ((k : Int) + 1) = ((k + 1 : Nat) : Int) := by simp [IntKind.wrap, IntKind.bits, IntKind.signed]; omega
      refine wpAnyH_take (i := 1) (v := ?_) rfl (by kernel_rfl) (by kernel_rfl) (by kernel_rfl) (fun _ _ _ h => h) (Or.inl ⟨by rfl, ?_⟩) hH0 ?_
      rotate_left
      · (intro w hSw; go_simp; try (with_reducible rfl))
      try simp only [Act.put, List.getElem_toArray, List.getElem_cons_zero, List.getElem_cons_succ, List.setIfInBounds_toArray, List.set_cons_zero, List.set_cons_succ]
      refine wpAnyH_take (i := 2) (v := ?_) rfl (by kernel_rfl) (by kernel_rfl) (by kernel_rfl) (fun _ _ _ h => h) (Or.inl ⟨by rfl, ?_⟩) hH0 ?_
      rotate_left
      · (intro w hSw; go_simp; try (with_reducible rfl))
      try simp only [Act.put, List.getElem_toArray, List.getElem_cons_zero, List.getElem_cons_succ, List.setIfInBounds_toArray, List.set_cons_zero, List.set_cons_succ]
      refine wpAnyH_take (i := 3) (v := ?_) rfl (by kernel_rfl) (by kernel_rfl) (by kernel_rfl) (fun _ _ _ h => h) (Or.inl ⟨by rfl, ?_⟩) hH0 ?_
      rotate_left
      · (intro w hSw; go_simp; try (with_reducible rfl))
      try simp only [Act.put, List.getElem_toArray, List.getElem_cons_zero, List.getElem_cons_succ, List.setIfInBounds_toArray, List.set_cons_zero, List.set_cons_succ]
      refine wpAnyH_take (i := 5) (v := ?_) rfl (by kernel_rfl) (by kernel_rfl) (by kernel_rfl) (fun _ _ _ h => h) (Or.inl ⟨by rfl, ?_⟩) hH0 ?_
      rotate_left
      · (intro w hSw; go_simp; try (with_reducible rfl))
      try simp only [Act.put, List.getElem_toArray, List.getElem_cons_zero, List.getElem_cons_succ, List.setIfInBounds_toArray, List.set_cons_zero, List.set_cons_succ]
      refine wpAnyH_take (i := 6) (v := ?_) rfl (by kernel_rfl) (by kernel_rfl) (by kernel_rfl) (fun _ _ _ h => h) (Or.inl ⟨by rfl, ?_⟩) hH0 ?_
      rotate_left
      · (intro w hSw; go_simp; try (with_reducible rfl))
      try simp only [Act.put, List.getElem_toArray, List.getElem_cons_zero, List.getElem_cons_succ, List.setIfInBounds_toArray, List.set_cons_zero, List.set_cons_succ]
      refine wpAnyH_take (i := 7) (v := ?_) rfl (by kernel_rfl) (by kernel_rfl) (by kernel_rfl) (fun _ _ _ h => h) (Or.inl ⟨by rfl, ?_⟩) hH0 ?_
      rotate_left
      · (intro w hSw; go_simp; try (with_reducible rfl))
      try simp only [Act.put, List.getElem_toArray, List.getElem_cons_zero, List.getElem_cons_succ, List.setIfInBounds_toArray, List.set_cons_zero, List.set_cons_succ]
      refine wpAnyH_take (i := 8) (v := ?_) rfl (by kernel_rfl) (by kernel_rfl) (by kernel_rfl) (fun _ _ _ h => h) (Or.inl ⟨by rfl, ?_⟩) hH0 ?_
      rotate_left
      · (intro w hSw; go_simp; try (with_reducible rfl))
      try simp only [Act.put, List.getElem_toArray, List.getElem_cons_zero, List.getElem_cons_succ, List.setIfInBounds_toArray, List.set_cons_zero, List.set_cons_succ]
      clear hw1
      refine wpAnyH_ready (rs := [0]) (by kernel_rfl) (by simp) ?_
      refine AllReadyH.cons rfl (fun K hK => ?_) AllReadyH.nil
      simp only [List.getElem_toArray, List.getElem_cons_zero]
      go_simp
      refine hK.out _ _ trivial (fun hH1 => ?_)
      clear hK K
      try simp only [Act.put, List.setIfInBounds_toArray, List.set_cons_zero, List.set_cons_succ]
      obtain ⟨gE, hgE⟩ : ∃ g, g = v0.heap.size := ⟨_, rfl⟩
      have HL1 := hid (HL0.out.trans ((below_new v0 #[] 5).mono HL0.out.size))
      have HE := hid (own_empty v0 5 w3.heap.size HL0.out.size)
      rw [← hgE] at HE
      simp only [← hgE]
      obtain ⟨v1, hvv⟩ : ∃ v, v = v0.alloc (.cells #[] 5) := ⟨_, rfl⟩
      simp only [← hvv] at HL1 HE ⊢
      have HEL := hid (show gE < v1.heap.size by rw [hvv, hgE]; simp)
      clear hvv hgE
      refine wpAnyH_ready (rs := [4]) (by kernel_rfl) (by simp) ?_
      refine AllReadyH.cons rfl (fun K hK => ?_) AllReadyH.nil
      simp only [List.getElem_toArray, List.getElem_cons_zero, List.getElem_cons_succ]
      rw [if_pos (by rfl)]
      refine op_app8 (.tmp 63) (.tmp 66) rfl w3.heap.size (some ⟨gE, 0, none⟩) (0) 0 ([]) rfl HE.out (some ⟨G, 0, none⟩) _ (k) (c3) (b.take k) rfl (by rw [List.length_take, ← HQ.out]; omega) (by rw [bys_take]; exact ((Sl.of_own HO3.out).take k).below HL1.out) (k) (by omega) (by omega) HL1.out.size ?_
      intro B4 d4 v2 ho hg
      have HL2 := hid (HL1.out.grown hg HL1.out.size (own_lt HE.out))
      have HR4 := hid ho
      clear ho hg
      refine hK.out _ _ trivial (fun hH2 => ?_)
      clear hK K
      try simp only [Act.put, List.setIfInBounds_toArray, List.set_cons_zero, List.set_cons_succ]
      refine wpAnyH_ready (rs := [9]) (by kernel_rfl) (by simp) ?_
      refine AllReadyH.cons rfl (fun K hK => ?_) AllReadyH.nil
      simp only [List.getElem_toArray, List.getElem_cons_zero, List.getElem_cons_succ]
      rw [if_pos (by rfl)]
      refine op_app8 (.tmp 67) (.tmp 71) rfl w3.heap.size B4 (k) d4 (b.take k) rfl HR4.out (some ⟨G, 0, none⟩) _ (q - (k + 1)) (c3 - (k + 1)) (b.drop (k + 1)) rfl (by rw [List.length_drop, ← HQ.out]) (HDR.out.below HL2.out) (q - 1) (by omega) (by omega) HL2.out.size ?_
      intro B9 d9 v3 ho hg
      have HL3 := hid (HL2.out.grown hg HL2.out.size (own_lt HR4.out))
      have HR9 := hid ho
      clear ho hg
      refine hK.out _ _ trivial (fun hH3 => ?_)
      clear hK K
      try simp only [Act.put, List.setIfInBounds_toArray, List.set_cons_zero, List.set_cons_succ]
      refine wpAnyH_take (i := 10) (v := ?_) rfl (by kernel_rfl) (by kernel_rfl) (by kernel_rfl) (fun _ _ _ h => h) (Or.inl ⟨by rfl, ?_⟩) hH3 ?_
      rotate_left
      · (intro w hSw; go_simp; try (with_reducible rfl))
      try simp only [Act.put, List.getElem_toArray, List.getElem_cons_zero, List.getElem_cons_succ, List.setIfInBounds_toArray, List.set_cons_zero, List.set_cons_succ]
      refine wpAnyH_done (by kernel_rfl) ?_ _
      refine NoPanic.normal ?_
      go_wp2_with fail
      have HBW := hid (HB3.out.trans (HL3.out.mono HB3.out.size))
      refine (awake_any _).mono ?_
      rintro e w7 ⟨rfl, hb7⟩
      have HB7 := hid (below_go HBW.out hb7)
      have HO7 := hid (own_below HR9.out hb7)
      clear hb7
      go_wp2_with fail
      refine (same_any R m cm raw w7 HR.out HRC.out (HRS.out.go HB7.out) (by omega)).mono ?_
      rintro e w8 ⟨rfl, hb8⟩
      have HB8 := hid (below_go HB7.out hb8)
      have HO8 := hid (own_below HO7.out hb8)
      clear hb8
      go_wp2_with fail
      refine (same_any B9 (q - 1) d9 (b.take k ++ b.drop (k + 1)) w8 (by simp [← HQ.out] <;> omega) (own_le HO8.out) (Sl.of_own HO8.out) (by omega)).mono ?_
      rintro e w9 ⟨rfl, hb9⟩
      have HB9 := hid (below_go HB8.out hb9)
      clear hb9
      go_wp2
      go_ret
      exact ⟨rfl, HB9.out⟩
    · have hi1 : (0 : Int) ≤ (k : Int) + 1 := by omega
      have hi2 : (k : Int) + 1 ≤ (q : Int) := by omega
      have hi3 : (k : Int) + 1 ≤ (c3 : Int) := by omega
      refine wp_region_noPanic ?_
      refine wp_region_held_drew (S := fun _ => True) (by kernel_rfl) trivial (fun hH0 => ?_)
      obtain ⟨v0, hv0⟩ : ∃ v0, v0 = w3.drew := ⟨_, rfl⟩
      have HL0 := hid (show Below w3.heap.size w3 v0 by rw [hv0]; exact (Below.refl _ _).drew)
      simp only [← hv0]
      clear hv0
      have hk1 : (k : Int) ≤ (q : Int) := by omega
      have hk2 : (k : Int) ≤ (c3 : Int) := by omega
      have hk3 : (q : Int) ≤ (c3 : Int) := by omega
      have HDR := hid (show Sl w3 w3.heap.size (some ⟨G, k + 1, none⟩) (bys (b.drop (k + 1))) by
        have := (Sl.of_own HO3.out).cut (k := k + 1) (c := c3) (by rw [bys_length, ← HQ.out]; exact hqc) 1 rfl
        rw [← bys_drop, if_neg hkc] at this
        simpa [Addr.add] using this)
      have hw1 : IntKind.i64.wrap ((k : Int) + 1) = ((k + 1 : Nat) : Int) := by simp [IntKind.wrap, IntKind.bits, IntKind.signed]; omega
      refine wpAnyH_take (i := 1) (v := ?_) rfl (by kernel_rfl) (by kernel_rfl) (by kernel_rfl) (fun _ _ _ h => h) (Or.inl ⟨by rfl, ?_⟩) hH0 ?_
      rotate_left
      · (intro w hSw; go_simp; try (with_reducible rfl))
      try simp only [Act.put, List.getElem_toArray, List.getElem_cons_zero, List.getElem_cons_succ, List.setIfInBounds_toArray, List.set_cons_zero, List.set_cons_succ]
      refine wpAnyH_take (i := 2) (v := ?_) rfl (by kernel_rfl) (by kernel_rfl) (by kernel_rfl) (fun _ _ _ h => h) (Or.inl ⟨by rfl, ?_⟩) hH0 ?_
      rotate_left
      · (intro w hSw; go_simp; try (with_reducible rfl))
      try simp only [Act.put, List.getElem_toArray, List.getElem_cons_zero, List.getElem_cons_succ, List.setIfInBounds_toArray, List.set_cons_zero, List.set_cons_succ]
      refine wpAnyH_take (i := 3) (v := ?_) rfl (by kernel_rfl) (by kernel_rfl) (by kernel_rfl) (fun _ _ _ h => h) (Or.inl ⟨by rfl, ?_⟩) hH0 ?_
      rotate_left
      · (intro w hSw; go_simp; try (with_reducible rfl))
      try simp only [Act.put, List.getElem_toArray, List.getElem_cons_zero, List.getElem_cons_succ, List.setIfInBounds_toArray, List.set_cons_zero, List.set_cons_succ]
      refine wpAnyH_take (i := 5) (v := ?_) rfl (by kernel_rfl) (by kernel_rfl) (by kernel_rfl) (fun _ _ _ h => h) (Or.inl ⟨by rfl, ?_⟩) hH0 ?_
      rotate_left
      · (intro w hSw; go_simp; try (with_reducible rfl))
      try simp only [Act.put, List.getElem_toArray, List.getElem_cons_zero, List.getElem_cons_succ, List.setIfInBounds_toArray, List.set_cons_zero, List.set_cons_succ]
      refine wpAnyH_take (i := 6) (v := ?_) rfl (by kernel_rfl) (by kernel_rfl) (by kernel_rfl) (fun _ _ _ h => h) (Or.inl ⟨by rfl, ?_⟩) hH0 ?_
      rotate_left
      · (intro w hSw; go_simp; try (with_reducible rfl))
      try simp only [Act.put, List.getElem_toArray, List.getElem_cons_zero, List.getElem_cons_succ, List.setIfInBounds_toArray, List.set_cons_zero, List.set_cons_succ]
      refine wpAnyH_take (i := 7) (v := ?_) rfl (by kernel_rfl) (by kernel_rfl) (by kernel_rfl) (fun _ _ _ h => h) (Or.inl ⟨by rfl, ?_⟩) hH0 ?_
      rotate_left
      · (intro w hSw; go_simp; try (with_reducible rfl))
      try simp only [Act.put, List.getElem_toArray, List.getElem_cons_zero, List.getElem_cons_succ, List.setIfInBounds_toArray, List.set_cons_zero, List.set_cons_succ]
      refine wpAnyH_take (i := 8) (v := ?_) rfl (by kernel_rfl) (by kernel_rfl) (by kernel_rfl) (fun _ _ _ h => h) (Or.inl ⟨by rfl, ?_⟩) hH0 ?_
      rotate_left
      · (intro w hSw; go_simp; try (with_reducible rfl))
      try simp only [Act.put, List.getElem_toArray, List.getElem_cons_zero, List.getElem_cons_succ, List.setIfInBounds_toArray, List.set_cons_zero, List.set_cons_succ]
      clear hw1
      refine wpAnyH_ready (rs := [0]) (by kernel_rfl) (by simp) ?_
      refine AllReadyH.cons rfl (fun K hK => ?_) AllReadyH.nil
      simp only [List.getElem_toArray, List.getElem_cons_zero]
      go_simp
      refine hK.out _ _ trivial (fun hH1 => ?_)
      clear hK K
      try simp only [Act.put, List.setIfInBounds_toArray, List.set_cons_zero, List.set_cons_succ]
      obtain ⟨gE, hgE⟩ : ∃ g, g = v0.heap.size := ⟨_, rfl⟩
      have HL1 := hid (HL0.out.trans ((below_new v0 #[] 5).mono HL0.out.size))
      have HE := hid (own_empty v0 5 w3.heap.size HL0.out.size)
      rw [← hgE] at HE
      simp only [← hgE]
      obtain ⟨v1, hvv⟩ : ∃ v, v = v0.alloc (.cells #[] 5) := ⟨_, rfl⟩
      simp only [← hvv] at HL1 HE ⊢
      have HEL := hid (show gE < v1.heap.size by rw [hvv, hgE]; simp)
      clear hvv hgE
      refine wpAnyH_ready (rs := [4]) (by kernel_rfl) (by simp) ?_
      refine AllReadyH.cons rfl (fun K hK => ?_) AllReadyH.nil
      simp only [List.getElem_toArray, List.getElem_cons_zero, List.getElem_cons_succ]
      rw [if_pos (by rfl)]
      refine op_app8 (.tmp 63) (.tmp 66) rfl w3.heap.size (some ⟨gE, 0, none⟩) (0) 0 ([]) rfl HE.out (some ⟨G, 0, none⟩) _ (k) (c3) (b.take k) rfl (by rw [List.length_take, ← HQ.out]; omega) (by rw [bys_take]; exact ((Sl.of_own HO3.out).take k).below HL1.out) (k) (by omega) (by omega) HL1.out.size ?_
      intro B4 d4 v2 ho hg
      have HL2 := hid (HL1.out.grown hg HL1.out.size (own_lt HE.out))
      have HR4 := hid ho
      clear ho hg
      refine hK.out _ _ trivial (fun hH2 => ?_)
      clear hK K
      try simp only [Act.put, List.setIfInBounds_toArray, List.set_cons_zero, List.set_cons_succ]
      refine wpAnyH_ready (rs := [9]) (by kernel_rfl) (by simp) ?_
      refine AllReadyH.cons rfl (fun K hK => ?_) AllReadyH.nil
      simp only [List.getElem_toArray, List.getElem_cons_zero, List.getElem_cons_succ]
      rw [if_pos (by rfl)]
      refine op_app8 (.tmp 67) (.tmp 71) rfl w3.heap.size B4 (k) d4 (b.take k) rfl HR4.out (some ⟨G, k + 1, none⟩) _ (q - (k + 1)) (c3 - (k + 1)) (b.drop (k + 1)) rfl (by rw [List.length_drop, ← HQ.out]) (HDR.out.below HL2.out) (q - 1) (by omega) (by omega) HL2.out.size ?_
      intro B9 d9 v3 ho hg
      have HL3 := hid (HL2.out.grown hg HL2.out.size (own_lt HR4.out))
      have HR9 := hid ho
      clear ho hg
      refine hK.out _ _ trivial (fun hH3 => ?_)
      clear hK K
      try simp only [Act.put, List.setIfInBounds_toArray, List.set_cons_zero, List.set_cons_succ]
      refine wpAnyH_take (i := 10) (v := ?_) rfl (by kernel_rfl) (by kernel_rfl) (by kernel_rfl) (fun _ _ _ h => h) (Or.inl ⟨by rfl, ?_⟩) hH3 ?_
      rotate_left
      · (intro w hSw; go_simp; try (with_reducible rfl))
      try simp only [Act.put, List.getElem_toArray, List.getElem_cons_zero, List.getElem_cons_succ, List.setIfInBounds_toArray, List.set_cons_zero, List.set_cons_succ]
      refine wpAnyH_done (by kernel_rfl) ?_ _
      refine NoPanic.normal ?_
      go_wp2_with fail
      have HBW := hid (HB3.out.trans (HL3.out.mono HB3.out.size))
      refine (awake_any _).mono ?_
      rintro e w7 ⟨rfl, hb7⟩
      have HB7 := hid (below_go HBW.out hb7)
      have HO7 := hid (own_below HR9.out hb7)
      clear hb7
      go_wp2_with fail
      refine (same_any R m cm raw w7 HR.out HRC.out (HRS.out.go HB7.out) (by omega)).mono ?_
      rintro e w8 ⟨rfl, hb8⟩
      have HB8 := hid (below_go HB7.out hb8)
      have HO8 := hid (own_below HO7.out hb8)
      clear hb8
      go_wp2_with fail
      refine (same_any B9 (q - 1) d9 (b.take k ++ b.drop (k + 1)) w8 (by simp [← HQ.out] <;> omega) (own_le HO8.out) (Sl.of_own HO8.out) (by omega)).mono ?_
      rintro e w9 ⟨rfl, hb9⟩
      have HB9 := hid (below_go HB8.out hb9)
      clear hb9
      go_wp2
      go_ret
      exact ⟨rfl, HB9.out⟩

set_option maxRecDepth 100000 in
theorem adecode_no (R : Option Addr) (m cm : Nat) (A : Option Addr) (n c : Nat) (un at_ how ch : Nat) (w : World) (h80 : 120 < m) :
    Calls Try.prog 9 #[.slice R m cm, .slice A n c, .int .u8 un, .int .u16 at_, .int .u8 how, .int .u8 ch] w fun e w' => e = .returned (.bool true) ∧ Below w.heap.size w w' := by
  go_enter Try.func9, Try.ntmps9
  go_wp2_with fail
  refine (awake_any _).mono ?_
  rintro e w1 ⟨rfl, hb1⟩
  go_wp2
  go_ret
  exact ⟨rfl, hb1⟩
theorem adecode_walk (R : Option Addr) (m cm : Nat) (raw : List UInt8) (A : Option Addr) (n c : Nat) (zs : List Int) (un at_ how ch : Nat) (w : World) (hr : raw.length = m) (hrc : m ≤ cm) (hrs : Sl w w.heap.size R (bys raw)) (hz : ∀ z ∈ zs, 0 ≤ z ∧ z < 65536) (hn : zs.length = n) (hc : n ≤ c) (hs : Sl w w.heap.size A (nums .u16 zs))
    (hat : at_ < 65536) (hch : ch < 256) :
    Calls Try.prog 9 #[.slice R m cm, .slice A n c, .int .u8 un, .int .u16 at_, .int .u8 how, .int .u8 ch] w fun e w' => e = .returned (.bool true) ∧ Below w.heap.size w w' := by
  by_cases h : m ≤ 120
  · exact adecode_yes R m cm raw A n c zs un at_ how ch w hr hrc hrs hz hn hc hs hat hch h
  · exact adecode_no R m cm A n c un at_ how ch w (by omega)
end Go.Proofs.Ytmhmaodnkifcaaa
