/-
  AuditPlays walked: every step of an arbitrary sequence agrees with the definition.
-/
import Derived.Test.YtmhmaodnkifcaaaLawA7
namespace Go.Proofs.Ytmhmaodnkifcaaa
open Go.RowKit
set_option linter.unusedSimpArgs false
set_option linter.unusedVariables false

theorem info_int : (Try.prog.info? 3).map (fun i => (i.zero, i.size, i.bytes)) = some (some (.int .i64 0), 1, 8) := by kernel_rfl
set_option maxRecDepth 100000 in
set_option maxHeartbeats 8000000 in
theorem plays_walk (A : Option Addr) (n c : Nat) (zs : List Int) (cp : Nat) (P O X : Int) (H AA : Nat) (mi : Nat) (pl : Int) (w : World) (hH : H < 18446744073709551616) (hA : AA < 18446744073709551616) (hmi : mi < 65536) (hpl : -128 ≤ pl ∧ pl < 128) (hz : ∀ z ∈ zs, 0 ≤ z ∧ z < 65536) (hn : zs.length = n) (hc : n ≤ c) (hs : Sl w w.heap.size A (nums .u16 zs)) :
    Calls Try.prog 7 #[.int .u8 cp, .slice A n c, evv P O H AA X, .int .u16 mi, .int .i8 pl] w fun e w' => e = .returned (.bool true) ∧ Below w.heap.size w w' := by
  have HO := hid (fun (w' : World) (h : Below w.heap.size w w') => of_any A n c 160 zs w' hz hn hc (hs.go h) (by omega))
  obtain ⟨ev7, hev7⟩ := evIs_any P O X H AA hH hA
  have HE7 := hid hev7
  have HPL := hid hpl
  clear hz hn hc hs hev7 hH hA hpl
  obtain ⟨m, hm⟩ : ∃ m : Nat, m = cp % 8 := ⟨_, rfl⟩
  have hm1 : (cp : Int).tmod 8 = (m : Int) := by rw [hm]; rfl
  have hm8 : m < 8 := by omega
  clear hm
  obtain ⟨wr0, hwr0⟩ : ∃ wr0, wr0 = w.alloc (.cells #[.int .i64 P, .int .i64 O, .int .u64 (H : Int), .int .u64 (AA : Int), .int .i64 X] 36) := ⟨_, rfl⟩
  have HW0 := hid hwr0
  have HBA := hid (show Below w.heap.size w wr0 by rw [hwr0]; exact below_new w _ _)
  have HRA := hid (show EvAt w.heap.size P O H AA X wr0 by rw [hwr0]; exact ev_new P O H AA X w)
  have HSA := hid (show wr0.heap.size = w.heap.size + 1 by rw [hwr0]; simp)
  clear hwr0
  unfold evv
  go_enter Try.func7, Try.ntmps7
  go_wp2_with fail
  simp only [← HW0.out]
  refine (awake_any wr0).mono ?_
  rintro e w1 ⟨rfl, hb1⟩
  have HB1 := hid hb1
  have HN := hid (new_ok m w1 (by omega))
  clear hb1
  go_wp2_with fail
  refine HN.out.mono ?_
  rintro e w2 ⟨g, hg, rfl, hL2, hb2⟩
  have HG := hid hg
  have HL2 := hid hL2
  have HB2 := hid (below_go HB1.out hb2)
  have HGS := hid (show w2.heap.size = w2.heap.size ∧ g < w2.heap.size from ⟨rfl, by obtain ⟨_, _, _, _, _, _, _, hX, _⟩ := hL2.open; exact hX.fs g rfl⟩)
  have HB12 := hid hb2
  clear hb2 hL2 hg HN
  obtain ⟨gm, hgm⟩ : ∃ gm, gm = w2.heap.size := ⟨_, rfl⟩
  obtain ⟨w3, hw3⟩ : ∃ w3, w3 = w2.alloc (.cells #[.int .i64 (m : Int), .slice none 0 0, .slice none 0 0] 65) := ⟨_, rfl⟩
  have HB23 := hid (show Below w2.heap.size w2 w3 by rw [hw3]; exact below_new w2 _ _)
  have HB3 := hid (below_go HB2.out HB23.out)
  have HR3 := hid (show RefAt w3 (fun k => k = gm) gm m [] [] by rw [hw3, hgm]; exact ref_new m w2)
  have HS3 := hid (show w3.heap.size = w2.heap.size + 1 by rw [hw3]; simp)
  have HW3 := hid hw3
  have HGM := hid hgm
  have HO3 := hid (HO.out w3 (below_go HBA.out HB3.out))
  clear hgm hw3
  go_wp2_with fail
  simp only [← HW3.out, ← HGM.out]
  refine HO3.out.mono ?_
  rintro e x ⟨gt, N, rfl, hN, htx, hbx⟩
  have HTX := hid htx
  have HBX := hid hbx
  have HB1X := hid (below_go HB3.out hbx)
  have hs1 := hbx.size
  have hs2 := HBA.out.size
  have hs3 := HB1.out.size
  have hs4 := HB12.out.size
  have hs5 := HS3.out
  have hs6 := HGS.out.2
  have hs7 := HG.out
  have hs8 := HGM.out
  have hs9 := HSA.out
  have HDX := hid (show Duo x w3.heap.size x.heap.size gt N g gm m [] (fun z => misN [] z) 0 [] [] 0 (fun k => k = g) (fun k => k = gm) x from
    ⟨(HL2.out.below HB23.out).below HBX.out, HR3.out.below HBX.out, HTX.out, fun k e1 e2 => by omega, fun k e => .inl e, fun k e => .inl e, ⟨by omega, by omega, by omega, by omega, by omega⟩, Turn.refl _ _⟩)
  have HRX := hid (ev_keep HRA.out HB1X.out)
  have HWX := hid (below_go HBA.out HB1X.out)
  have hxl : w.heap.size < x.heap.size := by omega
  have HGL := hid (show w.heap.size < g ∧ w.heap.size < gm ∧ w.heap.size < w3.heap.size by omega)
  clear htx hbx HO3 HO
  clear hs1 hs2 hs3 hs4 hs5 hs6 hs7 hs8 hs9
  go_wp2_with fail
  go_loopw [15] (fun i wr => ∃ (k : Nat) (es : List Ev) (ms : List Int) (F G : Nat → Prop) (it q : Nat), k ≤ 20 ∧ i = .int .i64 k ∧ Duo x w3.heap.size x.heap.size gt N g gm m es (fun z => misN ms z) q es ms it F G wr ∧ ms.length ≤ k ∧ it ≤ 20 * k ∧ q ≤ 2 * k) (fun i _ => 20 - (intOf i).toNat)
  case atStart => exact ⟨0, [], [], _, _, 0, 0, by omega, rfl, HDX.out, by simp, by omega, by omega⟩
  case round =>
    obtain ⟨k, es, ms, F, G, it, q, hk, rfl, hd, hml, hit, hq⟩ := hrel
    have HD := hid hd
    have HML := hid hml
    have hwf : ∀ j : Nat, j < 100 → (Lit.int .i64 (j : Int)).wf = true := fun j hj => by
      simp [Lit.wf, IntKind.min, IntKind.max, IntKind.signed, IntKind.bits]
      omega
    have HWF := hid hwf
    have hel : es.length ≤ q := by obtain ⟨_, _, _, _, _, _, _, _, _, _, h, _⟩ := hd.log.open; exact h
    clear hd hml hwf
    by_cases hlt : k < 20
    · have hki : (k : Int) < 20 := by omega
      obtain ⟨s, hs⟩ : ∃ s : Nat, s = k % 16 := ⟨_, rfl⟩
      have hs1 : (k : Int).tmod 16 = (s : Int) := by rw [hs]; rfl
      have hs16 : s < 16 := by omega
      obtain ⟨j, hj⟩ : ∃ j : Nat, j = k % 4 := ⟨_, rfl⟩
      have hj1 : (k : Int).tmod 4 = (j : Int) := by rw [hj]; rfl
      have hj4 : j < 4 := by omega
      have HSE := hid hs
      have HJE := hid hj
      clear hs hj
      have HEV := hid (event_any _ _ gt N it wr HD.out.tp (by omega))
      go_wp2_with fail
      refine HEV.out.mono ?_
      rintro e w4 ⟨p, o, h, a, y, i2, rfl, ok, hp3, hh, ha, hi1, hi2, ht4, hg4⟩
      have HD4 := hid (HD.out.tape hg4 ht4)
      have HEI := hid (show EvIs (some (p, o, h, a, y)) p o h a y from ⟨⟨rfl, rfl, rfl, rfl, rfl⟩, ok, hh, ha⟩)
      have hit2 : i2 ≤ 20 * (k + 1) := by omega
      clear ht4 hg4 HEV ok hp3 hh ha hi1 hi2
      obtain ⟨bx, hbx⟩ : ∃ bx, bx = w4.heap.size := ⟨_, rfl⟩
      obtain ⟨w5, hw5⟩ : ∃ w5, w5 = w4.alloc (.cells #[.int .i64 (p : Int), .int .i64 (o : Int), .int .u64 (h : Int), .int .u64 (a : Int), .int .i64 (y : Int)] 36) := ⟨_, rfl⟩
      have HW5 := hid hw5
      have HX4 := hid hbx
      have HX5 := hid (show EvAt bx p o h a y w5 by rw [hbx, hw5]; exact ev_new p o h a y w4)
      have HBK5 := hid (show Blk w5 bx #[.int .i64 (p : Int), .int .i64 (o : Int), .int .u64 (h : Int), .int .u64 (a : Int), .int .i64 (y : Int)] 36 by rw [hbx, hw5]; exact heap_alloc_new w4 _)
      have HB45 := hid (show Below w4.heap.size w4 w5 by rw [hw5]; exact below_new w4 _ _)
      have HNF := hid (show ¬ F bx from fun e => by have := HD4.out.fs bx e; omega)
      have HNG := hid (show ¬ (bx = gm) by have := HD4.out.gl; have := HD4.out.turn.size; omega)
      have HRW := hid (turn_ev HD4.out.turn HRX.out (by have := HGL.out; omega))
      clear hw5 hbx
      unfold evv
      by_cases hk7 : k = 7
      · subst hk7
        obtain rfl : s = 7 := HSE.out
        obtain rfl : j = 3 := HJE.out
        have HR5 := hid (ev_keep HRW.out HB45.out)
        have hne : w.heap.size ≠ bx := by have h1 := HRW.out.2; have h2 := HX4.out; omega
        obtain ⟨⟨r0, r1, r2, r3, r4⟩, hgr⟩ := HR5.out
        rw [HW5.out] at r0 r1 r2 r3 r4
        clear hgr
        go_wp2_with fail
        obtain ⟨w6, hw6⟩ : ∃ w6, w6 = w4.alloc (.cells #[.int .i64 P, .int .i64 O, .int .u64 (H : Int), .int .u64 (AA : Int), .int .i64 X] 36) := ⟨_, rfl⟩
        have HW6 := hid hw6
        have HX6 := hid (show EvAt bx P O (H : Int) (AA : Int) X w6 by rw [hw6, HX4.out]; exact ev_new P O (H : Int) (AA : Int) X w4)
        have HD6 := hid (HD4.out.below (show Below w4.heap.size w4 w6 by rw [hw6]; exact below_new w4 _ _))
        have HD0 := hid (HD6.out.below ((Below.refl _ _).drew))
        have HY0 := hid (ev_keep HX6.out (Below.refl _ _).drew)
        obtain ⟨rr, hrr⟩ : ∃ rr, rr = oR m es ev7 := ⟨_, rfl⟩
        have HRR := hid hrr
        clear hw6 hrr
        simp only [← HW6.out, ← HX4.out]
        refine wp_region_noPanic ?_
        refine wp_region_held_drew (S := ((fun W => W.cell? ⟨bx, 0, none⟩ = some (.int .i64 P) ∧ W.cell? ⟨bx, 1, none⟩ = some (.int .i64 O) ∧ W.cell? ⟨bx, 2, none⟩ = some (.int .u64 (H : Int)) ∧ W.cell? ⟨bx, 3, none⟩ = some (.int .u64 (AA : Int)) ∧ W.cell? ⟨bx, 4, none⟩ = some (.int .i64 X)))) (by kernel_rfl) HY0.out.1 (fun hH0 => ?_)
        refine wpAnyH_take (i := 0) (v := ?_) rfl (by kernel_rfl) (by kernel_rfl) (by kernel_rfl) (fun _ _ _ h => h) (Or.inl ⟨by kernel_rfl, ?_⟩) hH0 ?_
        rotate_left
        · (intro w hSw; (try dsimp only at hSw); go_simp; try (with_reducible rfl))
        try simp only [Act.put, List.getElem_toArray, List.getElem_cons_zero, List.setIfInBounds_toArray, List.set_cons_zero, List.set_cons_succ]
        refine wpAnyH_take (i := 1) (v := ?_) rfl (by kernel_rfl) (by kernel_rfl) (by kernel_rfl) (fun _ _ _ h => h) (Or.inl ⟨by kernel_rfl, ?_⟩) hH0 ?_
        rotate_left
        · (intro w hSw; (try dsimp only at hSw); go_simp; try (with_reducible rfl))
        try simp only [Act.put, List.getElem_toArray, List.getElem_cons_zero, List.getElem_cons_succ, List.setIfInBounds_toArray, List.set_cons_zero, List.set_cons_succ]
        refine wpAnyH_take (i := 3) (v := ?_) rfl (by kernel_rfl) (by kernel_rfl) (by kernel_rfl) (fun _ _ _ h => h) (Or.inl ⟨by kernel_rfl, ?_⟩) hH0 ?_
        rotate_left
        · (intro w hSw; (try dsimp only at hSw); go_simp; try (with_reducible rfl))
        try simp only [Act.put, List.getElem_toArray, List.getElem_cons_zero, List.getElem_cons_succ, List.setIfInBounds_toArray, List.set_cons_zero, List.set_cons_succ]
        refine wpAnyH_take (i := 4) (v := ?_) rfl (by kernel_rfl) (by kernel_rfl) (by kernel_rfl) (fun _ _ _ h => h) (Or.inl ⟨by kernel_rfl, ?_⟩) hH0 ?_
        rotate_left
        · (intro w hSw; (try dsimp only at hSw); go_simp; try (with_reducible rfl))
        try simp only [Act.put, List.getElem_toArray, List.getElem_cons_zero, List.getElem_cons_succ, List.setIfInBounds_toArray, List.set_cons_zero, List.set_cons_succ]
        refine wpAnyH_ready (rs := [2]) (by kernel_rfl) (by simp) ?_
        refine AllReadyH.cons rfl (fun K hK => ?_) AllReadyH.nil
        simp only [List.getElem_toArray, List.getElem_cons_zero, List.getElem_cons_succ]
        go_simp
        have HC := hid (append_ev F g m q es _ ev7 P O (H : Int) (AA : Int) X w6.drew HD0.out.log HE7.out (by omega))
        unfold evv at HC
        rw [← HRR.out] at HC
        refine HC.out.mono ?_
        rintro e y2 ⟨rfl, hst⟩
        obtain ⟨F2, hd2, ht2⟩ := HD0.out.step1 hst
        have HD2 := hid hd2
        have HX2 := hid (turn_ev ht2 HY0.out HNF.out)
        clear HC hst hd2 ht2
        refine hK.out _ _ HX2.out.1 (fun hH1 => ?_)
        clear hK K hH0
        try simp only [Act.put, List.setIfInBounds_toArray, List.set_cons_zero, List.set_cons_succ]
        refine wpAnyH_ready (rs := [5]) (by kernel_rfl) (by simp) ?_
        refine AllReadyH.cons rfl (fun K hK => ?_) AllReadyH.nil
        simp only [List.getElem_toArray, List.getElem_cons_zero, List.getElem_cons_succ]
        go_simp
        have HC := hid (rappend_ev G gm m es ms ev7 P O (H : Int) (AA : Int) X y2 HD2.out.ref HE7.out (by omega))
        unfold evv at HC
        rw [← HRR.out] at HC
        refine HC.out.mono ?_
        rintro e y3 ⟨rfl, hst⟩
        obtain ⟨G2, hd3, ht3⟩ := HD2.out.step2 hst
        have HD3 := hid hd3
        have HX3 := hid (turn_ev ht3 HX2.out HNG.out)
        clear HC hst hd3 ht3
        refine hK.out _ _ HX3.out.1 (fun hH2 => ?_)
        clear hK K hH1
        try simp only [Act.put, List.setIfInBounds_toArray, List.set_cons_zero, List.set_cons_succ]
        refine wpAnyH_take (i := 6) (v := ?_) rfl (by kernel_rfl) (by kernel_rfl) (by kernel_rfl) (fun _ _ _ h => h) (Or.inl ⟨by kernel_rfl, ?_⟩) hH2 ?_
        rotate_left
        · (intro w hSw; (try dsimp only at hSw); go_simp; try (with_reducible rfl))
        try simp only [Act.put, List.getElem_toArray, List.getElem_cons_zero, List.getElem_cons_succ, List.setIfInBounds_toArray, List.set_cons_zero, List.set_cons_succ]
        refine wpAnyH_done (by kernel_rfl) ?_ _
        refine NoPanic.normal ?_
        clear hH2
        go_wp2_with fail
        · have HMS := hid (miss_any F2 g m _ _ _ _ 3 y3 HD3.out.log (by decide) (by omega))
          refine HMS.out.mono ?_
          rintro e y4 ⟨rfl, hst⟩
          obtain ⟨F3, hd4, ht4⟩ := HD3.out.step1 hst
          rw [bump_mis] at hd4
          have HD5 := hid hd4
          clear hst hd4 ht4 HMS
          obtain ⟨nm, hnm⟩ : ∃ nm, nm = ms.length := ⟨_, rfl⟩
          have HNM := hid hnm
          have hnk : nm ≤ 20 := by have := HML.out; omega
          obtain ⟨AL, cL, AM, cM, hbk, h1, h2, h3, h4, h5, h6⟩ := HD5.out.ref
          have HSM := hid ((h2.sl h6).go (below_new y4 #[] 3))
          rw [← hnm] at hbk h4
          have HBKM := hid hbk
          have HCM := hid h4
          have c2 := cell_go (hbk.cell 2 rfl) (below_new y4 #[] 3)
          have HE := hid (World.ownsRow_made (base := y4.heap.size) (e := 3) (size := 1) y4 #[] 0 (Nat.le_refl _) (Nat.zero_le _) (by simp))
          clear hbk h1 h2 h3 h4 h5 h6 hnm
          go_wp2_with (at_builtin; refine wp_app1 Try.underlying63 info_int (by rfl) (by decide) (by rfl) (.tmp 63) (.tmp 67) rfl y4.heap.size (some ⟨y4.heap.size, 0, none⟩) 0 0 [] rfl HE.out AM _ nm cM (nums .i64 ms) rfl (by rw [nums_length]; exact HNM.out.symm) HSM.out (nums_one _ _) nm (by omega) (by omega) (by simp) ?_)
          intro A5 c5 y5 ho5 hg5 _
          have HB5 := hid ((below_new y4 #[] 3).grown hg5 (by simp) (own_lt HE.out))
          have HO5 := hid (show y5.ownsRow y4.heap.size 3 1 (.slice A5 nm c5) nm (nums .i64 ms) by simpa using ho5)
          have HO6 := hid (HO5.out.alloc (.cells #[.int .i64 3] 3))
          have hl5 := HB5.out.size
          clear ho5 hg5 c2
          go_wp2_with (at_builtin; refine wp_app1 Try.underlying63 info_int (by rfl) (by decide) (by rfl) (.tmp 68) (.tmp 71) rfl y4.heap.size A5 nm c5 (nums .i64 ms) rfl HO6.out (some ⟨y5.heap.size, 0, none⟩) _ 1 1 [.int .i64 3] rfl rfl (Sl.new y5 #[.int .i64 3] 3 (0, 0)) (nums_one .i64 [3]) (nm + 1) rfl (by omega) (by simp; omega) ?_)
          intro A6 c6 y6 ho6 hg6 _
          have HB6 := hid (below_app (below_go HB5.out (below_new y5 _ _)) HO6.out (Nat.le_refl _) hg6)
          have HO7 := hid (show y6.ownsRow y4.heap.size 3 1 (.slice A6 (nm + 1) c6) (nm + 1) (nums .i64 (ms ++ [3])) by rw [nums_append]; exact ho6)
          have HB7 := hid (HBKM.out.below HB6.out)
          have c3 := HB7.out.cell 2 rfl
          have z3 := HB7.out.frozen 2
          clear ho6 hg6 hl5
          go_wp2_with fail
          clear c3 z3
          obtain ⟨y7, hy7⟩ : ∃ y7, y7 = y6.setCell ⟨gm, 2, none⟩ (.slice A6 (nm + 1) c6) := ⟨_, rfl⟩
          have HY7 := hid hy7
          obtain ⟨G3, hd7, ht7⟩ := HD5.out.step2 (HD5.out.ref.missed (Below.refl _ _) HB6.out HO7.out (by rw [List.length_append, HNM.out]; rfl))
          rw [← hy7] at hd7
          have HD7 := hid hd7
          clear hy7 hd7 ht7
          simp only [← HY7.out]
          have HAK := hid (alike_any (some ⟨g, 0, none⟩) m _ (fun z => misN (ms ++ [3]) z) G3 gm (ms ++ [3]) 3 y7 (.inr ⟨g, F3, _, rfl, HD7.out.log, by omega⟩) HD7.out.ref rfl (by (try simp); have := HML.out; omega) (by decide))
          refine HAK.out.mono ?_
          rintro e y9 ⟨rfl, hb9⟩
          have HD9 := hid (HD7.out.below hb9)
          clear hb9 HAK
          go_wp2_with fail
          go_roundw
          case rel => exact ⟨7 + 1, _, ms ++ [3], _, _, _, _, by omega, by go_num, HD9.out, by have := HML.out; (try simp); omega, by omega, by omega⟩
          case measure => simp [intOf]; try omega
        · have HAK := hid (alike_any (some ⟨g, 0, none⟩) m _ (fun z => misN (ms) z) G2 gm (ms) 3 y3 (.inr ⟨g, F2, _, rfl, HD3.out.log, by omega⟩) HD3.out.ref rfl (by (try simp); have := HML.out; omega) (by decide))
          refine HAK.out.mono ?_
          rintro e y9 ⟨rfl, hb9⟩
          have HD9 := hid (HD3.out.below hb9)
          clear hb9 HAK
          go_wp2_with fail
          go_roundw
          case rel => exact ⟨7 + 1, _, ms, _, _, _, _, by omega, by go_num, HD9.out, by have := HML.out; (try simp); omega, by omega, by omega⟩
          case measure => simp [intOf]; try omega
      · have hk7 : ((k : Int) == 7) = false := by simp; omega
        go_wp2_with fail
        obtain ⟨w6, hw6⟩ : ∃ w6, w6 = w4.alloc (.cells #[.int .i64 (p : Int), .int .i64 (o : Int), .int .u64 (h : Int), .int .u64 (a : Int), .int .i64 (y : Int)] 36) := ⟨_, rfl⟩
        have HW6 := hid hw6
        have HX6 := hid (show EvAt bx (p : Int) (o : Int) (h : Int) (a : Int) (y : Int) w6 by rw [hw6, HX4.out]; exact ev_new (p : Int) (o : Int) (h : Int) (a : Int) (y : Int) w4)
        have HD6 := hid (HD4.out.below (show Below w4.heap.size w4 w6 by rw [hw6]; exact below_new w4 _ _))
        have HD0 := hid (HD6.out.below ((Below.refl _ _).drew))
        have HY0 := hid (ev_keep HX6.out (Below.refl _ _).drew)
        obtain ⟨rr, hrr⟩ : ∃ rr, rr = oR m es (some (p, o, h, a, y)) := ⟨_, rfl⟩
        have HRR := hid hrr
        clear hw6 hrr
        simp only [← HW6.out, ← HX4.out]
        refine wp_region_noPanic ?_
        refine wp_region_held_drew (S := ((fun W => W.cell? ⟨bx, 0, none⟩ = some (.int .i64 (p : Int)) ∧ W.cell? ⟨bx, 1, none⟩ = some (.int .i64 (o : Int)) ∧ W.cell? ⟨bx, 2, none⟩ = some (.int .u64 (h : Int)) ∧ W.cell? ⟨bx, 3, none⟩ = some (.int .u64 (a : Int)) ∧ W.cell? ⟨bx, 4, none⟩ = some (.int .i64 (y : Int))))) (by kernel_rfl) HY0.out.1 (fun hH0 => ?_)
        refine wpAnyH_take (i := 0) (v := ?_) rfl (by kernel_rfl) (by kernel_rfl) (by kernel_rfl) (fun _ _ _ h => h) (Or.inl ⟨by kernel_rfl, ?_⟩) hH0 ?_
        rotate_left
        · (intro w hSw; (try dsimp only at hSw); go_simp; try (with_reducible rfl))
        try simp only [Act.put, List.getElem_toArray, List.getElem_cons_zero, List.setIfInBounds_toArray, List.set_cons_zero, List.set_cons_succ]
        refine wpAnyH_take (i := 1) (v := ?_) rfl (by kernel_rfl) (by kernel_rfl) (by kernel_rfl) (fun _ _ _ h => h) (Or.inl ⟨by kernel_rfl, ?_⟩) hH0 ?_
        rotate_left
        · (intro w hSw; (try dsimp only at hSw); go_simp; try (with_reducible rfl))
        try simp only [Act.put, List.getElem_toArray, List.getElem_cons_zero, List.getElem_cons_succ, List.setIfInBounds_toArray, List.set_cons_zero, List.set_cons_succ]
        refine wpAnyH_take (i := 3) (v := ?_) rfl (by kernel_rfl) (by kernel_rfl) (by kernel_rfl) (fun _ _ _ h => h) (Or.inl ⟨by kernel_rfl, ?_⟩) hH0 ?_
        rotate_left
        · (intro w hSw; (try dsimp only at hSw); go_simp; try (with_reducible rfl))
        try simp only [Act.put, List.getElem_toArray, List.getElem_cons_zero, List.getElem_cons_succ, List.setIfInBounds_toArray, List.set_cons_zero, List.set_cons_succ]
        refine wpAnyH_take (i := 4) (v := ?_) rfl (by kernel_rfl) (by kernel_rfl) (by kernel_rfl) (fun _ _ _ h => h) (Or.inl ⟨by kernel_rfl, ?_⟩) hH0 ?_
        rotate_left
        · (intro w hSw; (try dsimp only at hSw); go_simp; try (with_reducible rfl))
        try simp only [Act.put, List.getElem_toArray, List.getElem_cons_zero, List.getElem_cons_succ, List.setIfInBounds_toArray, List.set_cons_zero, List.set_cons_succ]
        refine wpAnyH_ready (rs := [2]) (by kernel_rfl) (by simp) ?_
        refine AllReadyH.cons rfl (fun K hK => ?_) AllReadyH.nil
        simp only [List.getElem_toArray, List.getElem_cons_zero, List.getElem_cons_succ]
        go_simp
        have HC := hid (append_ev F g m q es _ (some (p, o, h, a, y)) (p : Int) (o : Int) (h : Int) (a : Int) (y : Int) w6.drew HD0.out.log HEI.out (by omega))
        unfold evv at HC
        rw [← HRR.out] at HC
        refine HC.out.mono ?_
        rintro e y2 ⟨rfl, hst⟩
        obtain ⟨F2, hd2, ht2⟩ := HD0.out.step1 hst
        have HD2 := hid hd2
        have HX2 := hid (turn_ev ht2 HY0.out HNF.out)
        clear HC hst hd2 ht2
        refine hK.out _ _ HX2.out.1 (fun hH1 => ?_)
        clear hK K hH0
        try simp only [Act.put, List.setIfInBounds_toArray, List.set_cons_zero, List.set_cons_succ]
        refine wpAnyH_ready (rs := [5]) (by kernel_rfl) (by simp) ?_
        refine AllReadyH.cons rfl (fun K hK => ?_) AllReadyH.nil
        simp only [List.getElem_toArray, List.getElem_cons_zero, List.getElem_cons_succ]
        go_simp
        have HC := hid (rappend_ev G gm m es ms (some (p, o, h, a, y)) (p : Int) (o : Int) (h : Int) (a : Int) (y : Int) y2 HD2.out.ref HEI.out (by omega))
        unfold evv at HC
        rw [← HRR.out] at HC
        refine HC.out.mono ?_
        rintro e y3 ⟨rfl, hst⟩
        obtain ⟨G2, hd3, ht3⟩ := HD2.out.step2 hst
        have HD3 := hid hd3
        have HX3 := hid (turn_ev ht3 HX2.out HNG.out)
        clear HC hst hd3 ht3
        refine hK.out _ _ HX3.out.1 (fun hH2 => ?_)
        clear hK K hH1
        try simp only [Act.put, List.setIfInBounds_toArray, List.set_cons_zero, List.set_cons_succ]
        refine wpAnyH_take (i := 6) (v := ?_) rfl (by kernel_rfl) (by kernel_rfl) (by kernel_rfl) (fun _ _ _ h => h) (Or.inl ⟨by kernel_rfl, ?_⟩) hH2 ?_
        rotate_left
        · (intro w hSw; (try dsimp only at hSw); go_simp; try (with_reducible rfl))
        try simp only [Act.put, List.getElem_toArray, List.getElem_cons_zero, List.getElem_cons_succ, List.setIfInBounds_toArray, List.set_cons_zero, List.set_cons_succ]
        refine wpAnyH_done (by kernel_rfl) ?_ _
        refine NoPanic.normal ?_
        clear hH2
        go_wp2_with fail
        · have HMS := hid (miss_any F2 g m _ _ _ _ (j : Int) y3 HD3.out.log (HWF.out j (by omega)) (by omega))
          refine HMS.out.mono ?_
          rintro e y4 ⟨rfl, hst⟩
          obtain ⟨F3, hd4, ht4⟩ := HD3.out.step1 hst
          rw [bump_mis] at hd4
          have HD5 := hid hd4
          clear hst hd4 ht4 HMS
          obtain ⟨nm, hnm⟩ : ∃ nm, nm = ms.length := ⟨_, rfl⟩
          have HNM := hid hnm
          have hnk : nm ≤ 20 := by have := HML.out; omega
          obtain ⟨AL, cL, AM, cM, hbk, h1, h2, h3, h4, h5, h6⟩ := HD5.out.ref
          have HSM := hid ((h2.sl h6).go (below_new y4 #[] 3))
          rw [← hnm] at hbk h4
          have HBKM := hid hbk
          have HCM := hid h4
          have c2 := cell_go (hbk.cell 2 rfl) (below_new y4 #[] 3)
          have HE := hid (World.ownsRow_made (base := y4.heap.size) (e := 3) (size := 1) y4 #[] 0 (Nat.le_refl _) (Nat.zero_le _) (by simp))
          clear hbk h1 h2 h3 h4 h5 h6 hnm
          go_wp2_with (at_builtin; refine wp_app1 Try.underlying63 info_int (by rfl) (by decide) (by rfl) (.tmp 63) (.tmp 67) rfl y4.heap.size (some ⟨y4.heap.size, 0, none⟩) 0 0 [] rfl HE.out AM _ nm cM (nums .i64 ms) rfl (by rw [nums_length]; exact HNM.out.symm) HSM.out (nums_one _ _) nm (by omega) (by omega) (by simp) ?_)
          intro A5 c5 y5 ho5 hg5 _
          have HB5 := hid ((below_new y4 #[] 3).grown hg5 (by simp) (own_lt HE.out))
          have HO5 := hid (show y5.ownsRow y4.heap.size 3 1 (.slice A5 nm c5) nm (nums .i64 ms) by simpa using ho5)
          have HO6 := hid (HO5.out.alloc (.cells #[.int .i64 (j : Int)] 3))
          have hl5 := HB5.out.size
          clear ho5 hg5 c2
          go_wp2_with (at_builtin; refine wp_app1 Try.underlying63 info_int (by rfl) (by decide) (by rfl) (.tmp 68) (.tmp 71) rfl y4.heap.size A5 nm c5 (nums .i64 ms) rfl HO6.out (some ⟨y5.heap.size, 0, none⟩) _ 1 1 [.int .i64 (j : Int)] rfl rfl (Sl.new y5 #[.int .i64 (j : Int)] 3 (0, 0)) (nums_one .i64 [(j : Int)]) (nm + 1) rfl (by omega) (by simp; omega) ?_)
          intro A6 c6 y6 ho6 hg6 _
          have HB6 := hid (below_app (below_go HB5.out (below_new y5 _ _)) HO6.out (Nat.le_refl _) hg6)
          have HO7 := hid (show y6.ownsRow y4.heap.size 3 1 (.slice A6 (nm + 1) c6) (nm + 1) (nums .i64 (ms ++ [(j : Int)])) by rw [nums_append]; exact ho6)
          have HB7 := hid (HBKM.out.below HB6.out)
          have c3 := HB7.out.cell 2 rfl
          have z3 := HB7.out.frozen 2
          clear ho6 hg6 hl5
          go_wp2_with fail
          clear c3 z3
          obtain ⟨y7, hy7⟩ : ∃ y7, y7 = y6.setCell ⟨gm, 2, none⟩ (.slice A6 (nm + 1) c6) := ⟨_, rfl⟩
          have HY7 := hid hy7
          obtain ⟨G3, hd7, ht7⟩ := HD5.out.step2 (HD5.out.ref.missed (Below.refl _ _) HB6.out HO7.out (by rw [List.length_append, HNM.out]; rfl))
          rw [← hy7] at hd7
          have HD7 := hid hd7
          clear hy7 hd7 ht7
          simp only [← HY7.out]
          have HAK := hid (alike_any (some ⟨g, 0, none⟩) m _ (fun z => misN (ms ++ [(j : Int)]) z) G3 gm (ms ++ [(j : Int)]) (j : Int) y7 (.inr ⟨g, F3, _, rfl, HD7.out.log, by omega⟩) HD7.out.ref rfl (by (try simp); have := HML.out; omega) (HWF.out j (by omega)))
          refine HAK.out.mono ?_
          rintro e y9 ⟨rfl, hb9⟩
          have HD9 := hid (HD7.out.below hb9)
          clear hb9 HAK
          go_wp2_with fail
          go_roundw
          case rel => exact ⟨k + 1, _, ms ++ [(j : Int)], _, _, _, _, by omega, by go_num, HD9.out, by have := HML.out; (try simp); omega, by omega, by omega⟩
          case measure => simp [intOf]; try omega
        · have HAK := hid (alike_any (some ⟨g, 0, none⟩) m _ (fun z => misN (ms) z) G2 gm (ms) (j : Int) y3 (.inr ⟨g, F2, _, rfl, HD3.out.log, by omega⟩) HD3.out.ref rfl (by (try simp); have := HML.out; omega) (HWF.out j (by omega)))
          refine HAK.out.mono ?_
          rintro e y9 ⟨rfl, hb9⟩
          have HD9 := hid (HD3.out.below hb9)
          clear hb9 HAK
          go_wp2_with fail
          go_roundw
          case rel => exact ⟨k + 1, _, ms, _, _, _, _, by omega, by go_num, HD9.out, by have := HML.out; (try simp); omega, by omega, by omega⟩
          case measure => simp [intOf]; try omega
    · obtain rfl : k = 20 := by omega
      have HML2 := HML.out
      obtain ⟨hp1, hp2⟩ := HPL.out
      have hwp : (Lit.int .i64 pl).wf = true := by
        simp [Lit.wf, IntKind.min, IntKind.max, IntKind.signed, IntKind.bits]
        omega
      have HWP := hid hwp
      clear hwp
      go_wp2_with fail
      refine (awake_any wr).mono ?_
      rintro e y1 ⟨rfl, hb1⟩
      have HD1 := hid (HD.out.below hb1)
      have HAK := hid (alike_any (some ⟨g, 0, none⟩) m es (fun z => misN ms z) G gm ms pl y1 (.inr ⟨g, F, _, rfl, HD1.out.log, by omega⟩) HD1.out.ref rfl (by omega) HWP.out)
      clear hb1
      go_wp2_with fail
      refine HAK.out.mono ?_
      rintro e y2 ⟨rfl, hb2⟩
      have HD2 := hid (HD1.out.below hb2)
      clear hb2 HAK
      go_wp2_with fail
      go_ret
      exact ⟨rfl, HWX.out.trans (HD2.out.turn.below (by omega) fun k hk e => by have := HGL.out; omega)⟩

end Go.Proofs.Ytmhmaodnkifcaaa
