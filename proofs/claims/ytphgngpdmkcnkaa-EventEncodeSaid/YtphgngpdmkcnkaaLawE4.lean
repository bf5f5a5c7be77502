/-
  EventEncode walked.
-/
import Derived.Test.YtphgngpdmkcnkaaLawE1
namespace Go.Proofs.Ytphgngpdmkcnkaa
open Go.RowKit
set_option linter.unusedSimpArgs false

/-- The encoding of an event that is right; else nothing. -/
def encXE (p o : Int) (h a : Nat) (x : Int) : List UInt8 := if EvOK p o x then encE p.toNat o.toNat h a x.toNat else []
def errE (p o x : Int) : Int := if EvOK p o x then 0 else 1
def OwnEE (w : World) (l : List UInt8) (err : Int) (e : Ending) (w' : World) : Prop :=
  ∃ A c, e = .returned (.tuple #[.slice A l.length c, .int .i64 err]) ∧ w'.ownsRow w.heap.size 5 1 (.slice A l.length c) l.length (bys l) ∧ Below w.heap.size w w'
theorem encode_any (p o : Int) (h a : Nat) (x : Int) (w : World) (hh : h < 18446744073709551616) (ha : a < 18446744073709551616) : Calls Try.prog 10 #[evv p o h a x] w (OwnEE w (encXE p o h a x) (errE p o x)) := by
  unfold encXE errE OwnEE
  by_cases ok : EvOK p o x
  · simp only [ok, ↓reduceIte]
    have hb := ok
    unfold EvOK at hb
    obtain ⟨p, rfl⟩ := Int.eq_ofNat_of_zero_le (show 0 ≤ p by omega)
    obtain ⟨o, rfl⟩ := Int.eq_ofNat_of_zero_le (show 0 ≤ o by omega)
    obtain ⟨x, rfl⟩ := Int.eq_ofNat_of_zero_le (show 0 ≤ x by omega)
    exact encode_yes p o h a x w ok hh ha
  · simp only [ok, ↓reduceIte]
    refine (encode_no p o h a x w ok).mono ?_
    rintro e w1 ⟨rfl, hb⟩
    exact ⟨none, 0, rfl, World.ownsRow_nil _ _ _ _, hb⟩
theorem rencode_any (p o : Int) (h a : Nat) (x : Int) (w : World) (hh : h < 18446744073709551616) (ha : a < 18446744073709551616) : Calls Try.prog 11 #[evv p o h a x] w (OwnEE w (encXE p o h a x) (errE p o x)) := by
  unfold encXE errE OwnEE
  by_cases ok : EvOK p o x
  · simp only [ok, ↓reduceIte]
    have hb := ok
    unfold EvOK at hb
    obtain ⟨p, rfl⟩ := Int.eq_ofNat_of_zero_le (show 0 ≤ p by omega)
    obtain ⟨o, rfl⟩ := Int.eq_ofNat_of_zero_le (show 0 ≤ o by omega)
    obtain ⟨x, rfl⟩ := Int.eq_ofNat_of_zero_le (show 0 ≤ x by omega)
    exact rencode_yes p o h a x w ok hh ha
  · simp only [ok, ↓reduceIte]
    refine (rencode_no p o h a x w ok).mono ?_
    rintro e w1 ⟨rfl, hb⟩
    exact ⟨none, 0, rfl, World.ownsRow_nil _ _ _ _, hb⟩
theorem check_any (p o : Int) (h a : Int) (x : Int) (w : World) : Calls Try.prog 12 #[evv p o h a x] w fun e w' => e = .returned (.int .i64 (errE p o x)) ∧ Below w.heap.size w w' := by
  unfold errE
  by_cases ok : EvOK p o x
  · simp only [ok, ↓reduceIte]
    exact check_yes p o x h a w ok
  · simp only [ok, ↓reduceIte]
    exact check_no p o x h a w ok
theorem rcheck_any (p o : Int) (h a : Int) (x : Int) (w : World) : Calls Try.prog 13 #[evv p o h a x] w fun e w' => e = .returned (.int .i64 (errE p o x)) ∧ Below w.heap.size w w' := by
  unfold errE
  by_cases ok : EvOK p o x
  · simp only [ok, ↓reduceIte]
    exact rcheck_yes p o x h a w ok
  · simp only [ok, ↓reduceIte]
    exact rcheck_no p o x h a w ok

set_option maxRecDepth 100000 in
set_option maxHeartbeats 2000000 in
theorem eencode_walk (rp ro rx : Int) (rh ra : Nat) (A : Option Addr) (n c : Nat) (zs : List Int) (op pl er : Nat) (w : World) (hrh : rh < 18446744073709551616) (hra : ra < 18446744073709551616) (hz : ∀ z ∈ zs, 0 ≤ z ∧ z < 65536) (hn : zs.length = n) (hc : n ≤ c) (hs : Sl w w.heap.size A (nums .u16 zs)) :
    Calls Try.prog 3 #[evv rp ro rh ra rx, .slice A n c, .int .u8 op, .int .u8 pl, .int .u8 er] w fun e w' => e = .returned (.bool true) ∧ Below w.heap.size w w' := by
  have HO := hid (fun (w' : World) (h : Below w.heap.size w w') => of_any A n c 12 zs w' hz hn hc (hs.go h) (by omega))
  have HRH := hid hrh
  have HRA := hid hra
  clear hz hn hc hs hrh hra
  obtain ⟨a1, ha1⟩ : ∃ a1 : Nat, a1 = pl % 67 := ⟨_, rfl⟩
  have hm1 : (pl : Int).tmod 67 = (a1 : Int) := by rw [ha1]; rfl
  have hl1 : a1 < 67 := by omega
  obtain ⟨a2, ha2⟩ : ∃ a2 : Nat, a2 = op % 40 := ⟨_, rfl⟩
  have hm2 : (op : Int).tmod 40 = (a2 : Int) := by rw [ha2]; rfl
  have hl2 : a2 < 40 := by omega
  obtain ⟨a3, ha3⟩ : ∃ a3 : Nat, a3 = er % 34 := ⟨_, rfl⟩
  have hm3 : (er : Int).tmod 34 = (a3 : Int) := by rw [ha3]; rfl
  have hl3 : a3 < 34 := by omega
  clear ha1 ha2 ha3
  unfold evv
  obtain ⟨w0, hw0⟩ : ∃ w0, w0 = w.alloc (.cells #[.int .i64 rp, .int .i64 ro, .int .u64 (rh : Int), .int .u64 (ra : Int), .int .i64 rx] 26) := ⟨_, rfl⟩
  have HW0 := hid hw0
  have HR0 := hid (show EvAt w.heap.size rp ro rh ra rx w0 by rw [hw0]; exact ev_new _ _ _ _ _ _)
  have HB0 := hid (show Below w.heap.size w w0 by rw [hw0]; exact below_new _ _ _)
  clear hw0
  go_enter Try.func3, Try.ntmps3
  go_wp2_with fail
  simp only [← HW0.out]
  clear HW0
  refine (HO.out _ HB0.out).mono ?_
  rintro e w1 ⟨g, N, rfl, hN, ht1, hb1⟩
  have HT1 := hid ht1
  have HB1 := hid hb1
  clear ht1 hb1
  go_wp2_with fail
  refine (event_any _ _ g N 0 w1 HT1.out (by omega)).mono ?_
  rintro e w2 ⟨p, o, h, a, x, i', rfl, ok, _, hh, ha, _, _, _, hg2⟩
  have HB2 := hid (made_below HB1.out HB1.out.size hg2 (Nat.le_refl _) HT1.out)
  have HR2 := hid (ev_keep HR0.out HB2.out)
  have HHA := hid (And.intro hh ha)
  unfold evv
  clear hg2 ok hh ha hN
  obtain ⟨V, hV⟩ : ∃ V, V = ((w2.alloc (.cells #[.int .i64 (p : Int), .int .i64 (o : Int), .int .u64 (h : Int), .int .u64 (a : Int), .int .i64 (x : Int)] 26)).alloc (.cells #[.int .i64 ((a1 : Int) - 1), .int .i64 (a2 : Int), .int .u64 0, .int .u64 0, .int .i64 ((a3 : Int) - 2)] 26)).alloc (.cells #[.int .i64 rp, .int .i64 ro, .int .u64 (rh : Int), .int .u64 (ra : Int), .int .i64 rx, .int .i64 (p : Int), .int .i64 (o : Int), .int .u64 (h : Int), .int .u64 (a : Int), .int .i64 (x : Int), .int .i64 ((a1 : Int) - 1), .int .i64 (a2 : Int), .int .u64 0, .int .u64 0, .int .i64 ((a3 : Int) - 2)] 26) := ⟨_, rfl⟩
  have HV := hid hV
  have HVS := hid (show V.heap.size = w2.heap.size + 3 by rw [hV]; simp)
  have HVB := hid (show Below w2.heap.size w2 V by rw [hV]; exact below_go (below_go (below_new w2 _ _) (below_new _ _ _)) (below_new _ _ _))
  have HC := hid (show ∀ k : Nat, k < 3 → ∃ (P O X : Int) (H A : Nat), V.cell? ⟨w2.heap.size + 1 + 1, k * 5, none⟩ = some (.int .i64 P) ∧ V.cell? ⟨w2.heap.size + 1 + 1, k * 5 + 1, none⟩ = some (.int .i64 O) ∧ V.cell? ⟨w2.heap.size + 1 + 1, k * 5 + 2, none⟩ = some (.int .u64 H) ∧ V.cell? ⟨w2.heap.size + 1 + 1, k * 5 + 3, none⟩ = some (.int .u64 A) ∧ V.cell? ⟨w2.heap.size + 1 + 1, k * 5 + 4, none⟩ = some (.int .i64 X) ∧ H < 18446744073709551616 ∧ A < 18446744073709551616 by
    intro k hk
    rw [hV]
    rcases (show k = 0 ∨ k = 1 ∨ k = 2 by omega) with rfl | rfl | rfl
    · exact ⟨rp, ro, rx, rh, ra, by simp [go_sem], by simp [go_sem], by simp [go_sem], by simp [go_sem], by simp [go_sem], HRH.out, HRA.out⟩
    · exact ⟨p, o, x, h, a, by simp [go_sem], by simp [go_sem], by simp [go_sem], by simp [go_sem], by simp [go_sem], HHA.out.1, HHA.out.2⟩
    · exact ⟨(a1 : Int) - 1, a2, (a3 : Int) - 2, 0, 0, by simp [go_sem], by simp [go_sem], by simp [go_sem], by simp [go_sem], by simp [go_sem], by omega, by omega⟩)
  clear hV
  obtain ⟨⟨f0, f1, f2, f3, f4⟩, hgf⟩ := HR2.out
  go_wp2_with fail
  clear f0 f1 f2 f3 f4 hgf hm1 hm2 hm3
  simp only [← HV.out]
  clear HV
  go_loopw [39] (fun i wr => ∃ k : Nat, k ≤ 3 ∧ i = .int .i64 k ∧ Below V.heap.size V wr) (fun i _ => 3 - (intOf i).toNat)
  case atStart => exact ⟨0, by omega, rfl, Below.refl _ _⟩
  case round =>
    obtain ⟨k, hk, rfl, hb⟩ := hrel
    by_cases hlt : k < 3
    · obtain ⟨P, O, X, H, A', g0, g1, g2, g3, g4, hH, hA⟩ := HC.out k hlt
      have q0 := (hb.cell (p := ⟨w2.heap.size + 1 + 1, k * 5, none⟩) (by rw [HVS.out]; simp)).trans g0
      have q1 := (hb.cell (p := ⟨w2.heap.size + 1 + 1, k * 5 + 1, none⟩) (by rw [HVS.out]; simp)).trans g1
      have q2 := (hb.cell (p := ⟨w2.heap.size + 1 + 1, k * 5 + 2, none⟩) (by rw [HVS.out]; simp)).trans g2
      have q3 := (hb.cell (p := ⟨w2.heap.size + 1 + 1, k * 5 + 3, none⟩) (by rw [HVS.out]; simp)).trans g3
      have q4 := (hb.cell (p := ⟨w2.heap.size + 1 + 1, k * 5 + 4, none⟩) (by rw [HVS.out]; simp)).trans g4
      have HB := hid hb
      have HE := hid (fun w => encode_any P O H A' X w hH hA)
      have HR := hid (fun w => rencode_any P O H A' X w hH hA)
      clear hb g0 g1 g2 g3 g4 hH hA
      have HK := hid (fun w => check_any P O H A' X w)
      have HRK := hid (fun w => rcheck_any P O H A' X w)
      unfold evv at HE HR HK HRK
      obtain ⟨l, hl⟩ : ∃ l, l = encXE P O H A' X := ⟨_, rfl⟩
      rw [← hl] at HE HR
      obtain ⟨er2, her⟩ : ∃ er2, er2 = errE P O X := ⟨_, rfl⟩
      rw [← her] at HE HR HK HRK
      clear hl her
      have HG0 := hid (ev_new P O H A' X wr)
      go_wp2_with fail
      clear q0 q1 q2 q3 q4
      refine (HE.out _).mono ?_
      rintro e w3 ⟨A1, c1, rfl, ho1, hb1⟩
      have HX1 := hid ho1
      have HB1 := hid (below_go HB.out (below_go (below_new wr _ _) hb1))
      have HG1 := hid (ev_keep HG0.out hb1)
      obtain ⟨⟨q0, q1, q2, q3, q4⟩, hq⟩ := HG1.out
      clear ho1 hb1
      go_wp2_with fail
      clear q0 q1 q2 q3 q4 hq
      refine (HR.out _).mono ?_
      rintro e w4 ⟨A2, c2, rfl, ho2, hb2⟩
      have HY2 := hid ho2
      have HX2 := hid (own_below HX1.out hb2)
      have HB2' := hid (below_go HB1.out hb2)
      have HG2 := hid (ev_keep HG1.out hb2)
      clear ho2 hb2 HE HR HG0 HG1 HX1
      go_wp2_with fail
      refine wp_region_noPanic ?_
      refine wp_region_held_drew (S := (fun W => ((convert 32 9 (.slice A1 l.length c1)).run Try.prog W = .ok (.string (strOf l)) W ∧ (convert 32 9 (.slice A2 l.length c2)).run Try.prog W = .ok (.string (strOf l)) W) ∧ EvAt wr.heap.size P O H A' X W)) (by kernel_rfl) ⟨⟨str_own HX2.out, str_own HY2.out⟩, HG2.out⟩ (fun hH0 => ?_)
      refine wpAnyH_take (i := 0) (v := ?_) rfl (by kernel_rfl) (by kernel_rfl) (by kernel_rfl) (fun _ _ _ h => h) (Or.inl ⟨by rfl, ?_⟩) hH0 ?_
      rotate_left
      · (intro w hSw; go_simp; try (with_reducible rfl))
      try simp only [Act.put, List.getElem_toArray, List.getElem_cons_zero, List.setIfInBounds_toArray, List.set_cons_zero, List.set_cons_succ]
      refine wpAnyH_take (i := 1) (v := ?_) rfl (by kernel_rfl) (by kernel_rfl) (by kernel_rfl) (fun _ _ _ h => h) (Or.inl ⟨by rfl, ?_⟩) hH0 ?_
      rotate_left
      · (intro w hSw; obtain ⟨⟨s1, s2⟩, ⟨⟨e0, e1, e2, e3, e4⟩, _⟩⟩ := hSw; go_simp; try (with_reducible rfl))
      try simp only [Act.put, List.getElem_toArray, List.getElem_cons_zero, List.getElem_cons_succ, List.setIfInBounds_toArray, List.set_cons_zero, List.set_cons_succ]
      refine wpAnyH_take (i := 2) (v := ?_) rfl (by kernel_rfl) (by kernel_rfl) (by kernel_rfl) (fun _ _ _ h => h) (Or.inl ⟨by rfl, ?_⟩) hH0 ?_
      rotate_left
      · (intro w hSw; go_simp; try (with_reducible rfl))
      try simp only [Act.put, List.getElem_toArray, List.getElem_cons_zero, List.getElem_cons_succ, List.setIfInBounds_toArray, List.set_cons_zero, List.set_cons_succ]
      refine wpAnyH_take (i := 3) (v := ?_) rfl (by kernel_rfl) (by kernel_rfl) (by kernel_rfl) (fun _ _ _ h => h) (Or.inl ⟨by rfl, ?_⟩) hH0 ?_
      rotate_left
      · (intro w hSw; obtain ⟨⟨s1, s2⟩, ⟨⟨e0, e1, e2, e3, e4⟩, _⟩⟩ := hSw; go_simp; try (with_reducible rfl))
      try simp only [Act.put, List.getElem_toArray, List.getElem_cons_zero, List.getElem_cons_succ, List.setIfInBounds_toArray, List.set_cons_zero, List.set_cons_succ]
      refine wpAnyH_take (i := 4) (v := ?_) rfl (by kernel_rfl) (by kernel_rfl) (by kernel_rfl) (fun _ _ _ h => h) (Or.inl ⟨by rfl, ?_⟩) hH0 ?_
      rotate_left
      · (intro w hSw; go_simp; try (with_reducible rfl))
      try simp only [Act.put, List.getElem_toArray, List.getElem_cons_zero, List.getElem_cons_succ, List.setIfInBounds_toArray, List.set_cons_zero, List.set_cons_succ]
      refine wpAnyH_take (i := 5) (v := ?_) rfl (by kernel_rfl) (by kernel_rfl) (by kernel_rfl) (fun _ _ _ h => h) (Or.inl ⟨by rfl, ?_⟩) hH0 ?_
      rotate_left
      · (intro w hSw; go_simp; try (with_reducible rfl))
      try simp only [Act.put, List.getElem_toArray, List.getElem_cons_zero, List.getElem_cons_succ, List.setIfInBounds_toArray, List.set_cons_zero, List.set_cons_succ]
      refine wpAnyH_take (i := 6) (v := ?_) rfl (by kernel_rfl) (by kernel_rfl) (by kernel_rfl) (fun _ _ _ h => h) (Or.inl ⟨by rfl, ?_⟩) hH0 ?_
      rotate_left
      · (intro w hSw; go_simp; try (with_reducible rfl))
      try simp only [Act.put, List.getElem_toArray, List.getElem_cons_zero, List.getElem_cons_succ, List.setIfInBounds_toArray, List.set_cons_zero, List.set_cons_succ]
      refine wpAnyH_take (i := 7) (v := ?_) rfl (by kernel_rfl) (by kernel_rfl) (by kernel_rfl) (fun _ _ _ h => h) (Or.inl ⟨by rfl, ?_⟩) hH0 ?_
      rotate_left
      · (intro w hSw; go_simp; try (with_reducible rfl))
      try simp only [Act.put, List.getElem_toArray, List.getElem_cons_zero, List.getElem_cons_succ, List.setIfInBounds_toArray, List.set_cons_zero, List.set_cons_succ]
      refine wpAnyH_take (i := 8) (v := ?_) rfl (by kernel_rfl) (by kernel_rfl) (by kernel_rfl) (fun _ _ _ h => h) (Or.inl ⟨by rfl, ?_⟩) hH0 ?_
      rotate_left
      · (intro w hSw; go_simp; try (with_reducible rfl))
      try simp only [Act.put, List.getElem_toArray, List.getElem_cons_zero, List.getElem_cons_succ, List.setIfInBounds_toArray, List.set_cons_zero, List.set_cons_succ]
      refine wpAnyH_take (i := 9) (v := ?_) rfl (by kernel_rfl) (by kernel_rfl) (by kernel_rfl) (fun _ _ _ h => h) (Or.inl ⟨by rfl, ?_⟩) hH0 ?_
      rotate_left
      · (intro w hSw; go_simp; try (with_reducible rfl))
      try simp only [Act.put, List.getElem_toArray, List.getElem_cons_zero, List.getElem_cons_succ, List.setIfInBounds_toArray, List.set_cons_zero, List.set_cons_succ]
      refine wpAnyH_take (i := 10) (v := ?_) rfl (by kernel_rfl) (by kernel_rfl) (by kernel_rfl) (fun _ _ _ h => h) (Or.inl ⟨by rfl, ?_⟩) hH0 ?_
      rotate_left
      · (intro w hSw; go_simp; try (with_reducible rfl))
      try simp only [Act.put, List.getElem_toArray, List.getElem_cons_zero, List.getElem_cons_succ, List.setIfInBounds_toArray, List.set_cons_zero, List.set_cons_succ]
      refine wpAnyH_take (i := 11) (v := ?_) rfl (by kernel_rfl) (by kernel_rfl) (by kernel_rfl) (fun _ _ _ h => h) (Or.inl ⟨by rfl, ?_⟩) hH0 ?_
      rotate_left
      · (intro w hSw; obtain ⟨⟨s1, s2⟩, ⟨⟨e0, e1, e2, e3, e4⟩, _⟩⟩ := hSw; go_simp; try (with_reducible rfl))
      try simp only [Act.put, List.getElem_toArray, List.getElem_cons_zero, List.getElem_cons_succ, List.setIfInBounds_toArray, List.set_cons_zero, List.set_cons_succ]
      refine wpAnyH_take (i := 13) (v := ?_) rfl (by kernel_rfl) (by kernel_rfl) (by kernel_rfl) (fun _ _ _ h => h) (Or.inl ⟨by rfl, ?_⟩) hH0 ?_
      rotate_left
      · (intro w hSw; obtain ⟨⟨s1, s2⟩, ⟨⟨e0, e1, e2, e3, e4⟩, _⟩⟩ := hSw; go_simp; try (with_reducible rfl))
      try simp only [Act.put, List.getElem_toArray, List.getElem_cons_zero, List.getElem_cons_succ, List.setIfInBounds_toArray, List.set_cons_zero, List.set_cons_succ]
      refine wpAnyH_ready (rs := [12]) (by kernel_rfl) (by simp) ?_
      refine AllReadyH.cons rfl (fun K hK => ?_) AllReadyH.nil
      simp only [List.getElem_toArray, List.getElem_cons_zero, List.getElem_cons_succ]
      go_simp
      refine (HK.out _).mono ?_
      rintro e w5 ⟨rfl, hb⟩
      have HB3' := hid (below_go HB2'.out (undrew hb))
      have HX3 := hid (own_below HX2.out (undrew hb))
      have HY3 := hid (own_below HY2.out (undrew hb))
      have HG3 := hid (ev_keep HG2.out (undrew hb))
      clear hb
      refine hK.out _ _ ⟨⟨str_own HX3.out, str_own HY3.out⟩, HG3.out⟩ (fun hH5 => ?_)
      clear hK K
      try simp only [Act.put, List.setIfInBounds_toArray, List.set_cons_zero, List.set_cons_succ]
      refine wpAnyH_ready (rs := [14]) (by kernel_rfl) (by simp) ?_
      refine AllReadyH.cons rfl (fun K hK => ?_) AllReadyH.nil
      simp only [List.getElem_toArray, List.getElem_cons_zero, List.getElem_cons_succ]
      go_simp
      refine (HRK.out _).mono ?_
      rintro e w6 ⟨rfl, hb⟩
      have HB4' := hid (below_go HB3'.out hb)
      have HX4 := hid (own_below HX3.out hb)
      have HY4 := hid (own_below HY3.out hb)
      have HG4 := hid (ev_keep HG3.out hb)
      clear hb
      refine hK.out _ _ ⟨⟨str_own HX4.out, str_own HY4.out⟩, HG4.out⟩ (fun hH6 => ?_)
      clear hK K
      try simp only [Act.put, List.setIfInBounds_toArray, List.set_cons_zero, List.set_cons_succ]
      refine wpAnyH_take (i := 15) (v := ?_) rfl (by kernel_rfl) (by kernel_rfl) (by kernel_rfl) (fun _ _ _ h => h) (Or.inl ⟨by rfl, ?_⟩) hH6 ?_
      rotate_left
      · (intro w hSw; go_simp; try (with_reducible rfl))
      try simp only [Act.put, List.getElem_toArray, List.getElem_cons_zero, List.getElem_cons_succ, List.setIfInBounds_toArray, List.set_cons_zero, List.set_cons_succ]
      refine wpAnyH_take (i := 16) (v := ?_) rfl (by kernel_rfl) (by kernel_rfl) (by kernel_rfl) (fun _ _ _ h => h) (Or.inl ⟨by rfl, ?_⟩) hH6 ?_
      rotate_left
      · (intro w hSw; go_simp; try (with_reducible rfl))
      try simp only [Act.put, List.getElem_toArray, List.getElem_cons_zero, List.getElem_cons_succ, List.setIfInBounds_toArray, List.set_cons_zero, List.set_cons_succ]
      refine wpAnyH_done (by kernel_rfl) ?_ _
      refine NoPanic.normal ?_
      go_wp2
      go_roundw
      case rel => exact ⟨k + 1, by omega, by go_num, HB4'.out⟩
      case measure => simp [intOf]; omega
    · obtain rfl : k = 3 := by omega
      have HB := hid hb
      clear hb
      go_wp2_with fail
      refine (awake_any _).mono ?_
      rintro e w3 ⟨rfl, hb1⟩
      have HB1 := hid (below_go HB2.out (below_go (below_go HVB.out HB.out) hb1))
      clear hb1
      go_wp2
      go_ret
      exact ⟨rfl, below_go HB0.out HB1.out⟩
end Go.Proofs.Ytphgngpdmkcnkaa
