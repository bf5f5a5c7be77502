/-
  AuditGrows walked.
-/
import Derived.Test.YtmhmaodnkifcaaaLawA2
import Derived.IntWalk
namespace Go.Proofs.Ytmhmaodnkifcaaa
open Go.RowKit
set_option linter.unusedSimpArgs false
set_option linter.unusedVariables false

set_option maxRecDepth 100000 in
set_option maxHeartbeats 4000000 in
theorem grows_walk (A : Option Addr) (n c : Nat) (zs : List Int) (Am : Option Addr) (nm cm : Nat) (ys : List Int) (w : World) (hz : ∀ z ∈ zs, 0 ≤ z ∧ z < 65536) (hn : zs.length = n) (hc : n ≤ c) (hs : Sl w w.heap.size A (nums .u16 zs))
    (hz2 : ∀ z ∈ ys, 0 ≤ z ∧ z < 65536) (hn2 : ys.length = nm) (hc2 : nm ≤ cm) (hs2 : Sl w w.heap.size Am (nums .u16 ys)) :
    Calls Try.prog 6 #[.slice A n c, .slice Am nm cm] w fun e w' => e = .returned (.bool true) ∧ Below w.heap.size w w' := by
  have HO := hid (fun (w' : World) (h : Below w.heap.size w w') => of_any A n c 100 zs w' hz hn hc (hs.go h) (by omega))
  have HOM := hid (fun (w' : World) (h : Below w.heap.size w w') => of_any Am nm cm 12 ys w' hz2 hn2 hc2 (hs2.go h) (by omega))
  clear hz hn hc hs hz2 hn2 hc2 hs2
  have HN := hid (new_ok 100 w (by omega))
  go_enter Try.func6, Try.ntmps6
  go_wp2_with fail
  refine HN.out.mono ?_
  rintro e w1 ⟨g, hg, rfl, hL, hb⟩
  have HL := hid hL
  have HB := hid hb
  have HG := hid hg
  clear hL hb hg HN
  have HO1 := hid (HO.out w1 HB.out)
  go_wp2_with fail
  refine HO1.out.mono ?_
  rintro e w2 ⟨gt, N, rfl, hN, ht2, hb2⟩
  have HT2 := hid ht2
  have HB12 := hid hb2
  have HEV := hid (events_any _ _ gt N 0 12 w2 ht2 (by omega) (by omega))
  clear hb2 ht2 HO1
  go_wp2_with fail
  refine HEV.out.mono ?_
  rintro e w3 ⟨es, A3, c3, rfl, hes, he3, ho3, hg3⟩
  have HB13 := hid (made_below HB12.out HB12.out.size hg3 (Nat.le_refl _) HT2.out)
  have HL3 := hid (HL.out.below HB13.out)
  have HB3 := hid (below_go HB.out HB13.out)
  have HE3 := hid he3
  have HO3 := hid ho3
  have hg1 : g < w1.heap.size := by obtain ⟨_, _, _, _, _, _, _, hX, _⟩ := HL.out.open; exact hX.fs g hX.f0
  have HRG := hid (show (Value.slice A3 es.length c3).ownBlock ≠ some g from fun e => by have := (HO3.out.lt g e).1; have := HB12.out.size; omega)
  have HPA := hid (fun k => plays_all 100 (es.take k) (by rw [List.length_take]; omega))
  obtain ⟨ne, hne⟩ : ∃ ne, ne = es.length := ⟨_, rfl⟩
  have HNE := hid hne
  rw [← hne] at HRG HO3 hes
  clear he3 ho3 hg3 HEV
  go_wp2_with fail
  rw [← hne]
  clear hne
  go_loopw [24] (fun i wr => ∃ k : Nat, k ≤ ne ∧ i = .int .i64 k ∧ Lg w3 g 100 (es.take k) (fun _ => 0) k wr) (fun i _ => ne - (intOf i).toNat)
  case atStart => exact ⟨0, Nat.zero_le _, rfl, Lg.start HL3.out⟩
  case round =>
    obtain ⟨k, hk, rfl, hl⟩ := hrel
    have HLR := hid hl
    clear hl
    by_cases hlt : k < ne
    · have hlt' : k < es.length := by rw [← HNE.out]; exact hlt
      obtain ⟨b, rfl, hb1, hb2, hob, q0, q1, q2, q3, q4⟩ := ev_at HO3.out HNE.out.symm hlt'
      have hbg : b ≠ g := fun e => HRG.out (by rw [hob, e])
      have q0 := HLR.out.cell q0 hbg
      have q1 := HLR.out.cell q1 hbg
      have q2 := HLR.out.cell q2 hbg
      have q3 := HLR.out.cell q3 hbg
      have q4 := HLR.out.cell q4 hbg
      have HST := hid (plays_take 100 es k hlt')
      rw [HPA.out, HPA.out] at HST
      have HRI := hid (HE3.out _ (List.getElem_mem hlt')).1
      obtain ⟨⟨p1, o1, h1, a1, x1⟩, hev⟩ : ∃ v, es[k] = v := ⟨_, rfl⟩
      rw [hev] at q0 q1 q2 q3 q4 HST HRI
      simp only at q0 q1 q2 q3 q4
      clear hev hb1 hb2 hob
      have HLB := hid (HLR.out.below (below_new wr #[.int .i64 (p1 : Int), .int .i64 (o1 : Int), .int .u64 (h1 : Int), .int .u64 (a1 : Int), .int .i64 (x1 : Int)] 36))
      have HAP := hid (lg_append w3 _ g 100 k _ _ p1 o1 h1 a1 x1 HLB.out HRI.out (by omega))
      unfold evv at HAP
      go_wp2_with fail
      refine HAP.out.mono ?_
      rintro e w4 ⟨rfl, hl4⟩
      rw [← HST.out] at hl4
      have HL4 := hid hl4
      clear hl4 q0 q1 q2 q3 q4
      go_wp2_with fail
      go_roundw
      case rel => exact ⟨k + 1, by omega, by go_num, HL4.out⟩
      case measure => simp [intOf]; omega
    · obtain rfl : ne = k := by omega
      have HLW := hid (show Lg w3 g 100 es (fun _ => 0) ne wr by have := HLR.out; rw [HNE.out, List.take_length, ← HNE.out] at this; exact this)
      clear HLR hk
      have HRT := hid HE3.out.right
      have HLL := hid (logB_len es fStart HRT.out)
      have HBY := hid (lg_bytes w3 wr g 100 ne es _ HLW.out (by omega))
      obtain ⟨lw, hlw⟩ : ∃ lw, lw = logB fStart es := ⟨_, rfl⟩
      obtain ⟨p, hp⟩ : ∃ p, p = lw.length := ⟨_, rfl⟩
      rw [← hlw, ← hp] at HBY HLL
      have HLWE := hid hlw
      have HP := hid hp
      have hp840 : p ≤ 840 := by have := HLL.out; rw [← HNE.out] at this; omega
      clear hlw hp HLL
      go_wp2_with fail
      refine HBY.out.mono ?_
      rintro e w5 ⟨A5, c5, rfl, ho5, hb5⟩
      have HO5 := hid ho5
      have HL5 := hid (HLW.out.below hb5)
      have HBWR := hid hb5
      clear ho5 hb5 HBY
      have HDG := hid (lg_digest w3 w5 g 100 _ _ _ HL5.out)
      obtain ⟨D, hD⟩ : ∃ D, D = endD fStart es := ⟨_, rfl⟩
      rw [← hD] at HDG
      have HDE := hid hD
      clear hD
      go_wp2_with fail
      refine HDG.out.mono ?_
      rintro e w5 ⟨rfl, rfl⟩
      have HBW := hid (HB3.out.trans (HL5.out.frame HB3.out.size (by have := HG.out; omega)))
      have HOM1 := hid (HOM.out _ HBW.out)
      go_wp2_with fail
      refine HOM1.out.mono ?_
      rintro e w6 ⟨gm, Nm, rfl, hNm, htm, hbm⟩
      have HTM := hid htm
      have HBM := hid hbm
      clear htm hbm HOM1 HDG HOM
      go_wp2_with fail
      refine (event_any _ _ gm Nm 0 w6 HTM.out (by omega)).mono ?_
      rintro e w7 ⟨ep, eo, eh, ea, ex, i', rfl, eok, _, ehh, eha, _, _, _, hgm⟩
      have HRI := hid (show Right (ep, eo, eh, ea, ex) from ⟨eok, ehh, eha⟩)
      have HB57 := hid (made_below HBM.out HBM.out.size hgm (Nat.le_refl _) HTM.out)
      clear eok ehh eha hgm HBM
      unfold evv
      have hbn := below_new w7 #[.int .i64 (ep : Int), .int .i64 (eo : Int), .int .u64 (eh : Int), .int .u64 (ea : Int), .int .i64 (ex : Int)] 36
      have HE7 := hid (ev_new ep eo eh ea ex w7)
      have HO7 := hid (own_below (own_below HO5.out HB57.out) hbn)
      have HLX := hid ((HL5.out.below HB57.out).below hbn)
      have HSZ := hid (show w5.heap.size ≤ (w7.alloc (.cells #[.int .i64 (ep : Int), .int .i64 (eo : Int), .int .u64 (eh : Int), .int .u64 (ea : Int), .int .i64 (ex : Int)] 36)).heap.size by have := HB57.out.size; simp; omega)
      clear hbn
      have HFX := hid (show ∃ F, LogAt (w7.alloc (.cells #[.int .i64 (ep : Int), .int .i64 (eo : Int), .int .u64 (eh : Int), .int .u64 (ea : Int), .int .i64 (ex : Int)] 36)) F g 100 es (fun _ => 0) ne ∧ Run w3 (fun k => k = g) (w7.alloc (.cells #[.int .i64 (ep : Int), .int .i64 (eo : Int), .int .u64 (eh : Int), .int .u64 (ea : Int), .int .i64 (ex : Int)] 36)) F ∧ ∀ k, F k → k < wr.heap.size by
        obtain ⟨F, h1, h2⟩ := HLW.out
        have hb := below_go HBWR.out (below_go HB57.out (below_new w7 #[.int .i64 (ep : Int), .int .i64 (eo : Int), .int .u64 (eh : Int), .int .u64 (ea : Int), .int .i64 (ex : Int)] 36))
        refine ⟨F, h1.below hb, h2.below hb, ?_⟩
        obtain ⟨_, _, _, _, _, _, _, hX, _⟩ := h1.open
        exact hX.fs)
      obtain ⟨F, hlx, hrx, hfx⟩ := HFX.out
      have HAP := hid (append_any F g 100 ne es (fun _ => 0) ep eo eh ea ex _ hlx HRI.out (by omega))
      have HRX := hid hrx
      have HFL := hid hfx
      rw [apR_room (by rw [← HNE.out]; omega)] at HAP
      have hae : apE 100 es (ep, eo, eh, ea, ex) = es ++ [(ep, eo, eh, ea, ex)] := by
        rcases ap_cases 100 es (ep, eo, eh, ea, ex) with h | h
        · exact h.2
        · have := apR_room (cap := 100) (es := es) (e := (ep, eo, eh, ea, ex)) (by rw [← HNE.out]; omega)
          omega
      rw [hae] at HAP
      unfold evv at HAP
      clear hae hlx hrx hfx HFX
      go_wp2_with fail
      refine HAP.out.mono ?_
      rintro e w8 ⟨rfl, F8, hl8, ht8, hf8⟩
      have hR : Run _ F w8 F8 := ⟨ht8, hf8⟩
      have HL8 := hid (show Lg w3 g 100 (es ++ [(ep, eo, eh, ea, ex)]) (fun _ => 0) (ne + 1) w8 from ⟨F8, hl8, HRX.out.trans hR⟩)
      have HO8 := hid (hR.own HO7.out fun k hk e => by have := HFL.out k hk; have := (HO7.out.lt k e).1; omega)
      have HE8 := hid (hR.ev HE7.out (fun h => by have := HFL.out _ h; have := HBWR.out.size; have := HB57.out.size; omega))
      clear hl8 ht8 hf8 hR HAP HLX HO7 HE7
      have HBY := hid (lg_bytes w3 w8 g 100 _ _ _ HL8.out (by omega))
      obtain ⟨r, hr⟩ : ∃ r, r = encE ep eo eh ea ex := ⟨_, rfl⟩
      obtain ⟨wb, hwb⟩ : ∃ wb, wb = recB D r := ⟨_, rfl⟩
      have hln : logB fStart (es ++ [(ep, eo, eh, ea, ex)]) = lw ++ wb := by
        rw [logB_snoc, hwb, hr, HLWE.out, HDE.out]
        rfl
      obtain ⟨Q, hQ⟩ : ∃ Q, Q = wb.length := ⟨_, rfl⟩
      obtain ⟨M, hM⟩ : ∃ M, M = p + Q := ⟨_, rfl⟩
      rw [hln, List.length_append, ← HP.out, ← hQ, ← hM] at HBY
      have hr50 : r.length ≤ 50 := by rw [hr]; exact encV_short (ep, eo, eh, ea, ex) HRI.out
      have heb : (encB r).length ≤ 60 := by have := encB_len r (by omega); omega
      have hQ8 : Q = (encB r).length + 8 := by rw [hQ, hwb]; simp [recB, leb_length]
      have HWB := hid hwb
      have HQ := hid hQ
      have HQ8 := hid hQ8
      have HRE := hid hr
      have hq0 : 0 < Q := by omega
      have hq70 : Q ≤ 70 := by omega
      have hwr : IntKind.i64.wrap ((p : Int) + (Q : Int)) = (M : Int) := by rw [IntWalk.i64_in _ (by omega)]; omega
      have hpm : p ≤ M := by omega
      have hpq : M - p = Q := by omega
      have HMM := hid hM
      clear hln hwb hQ hQ8 hr hM
      go_wp2_with fail
      refine HBY.out.mono ?_
      rintro e w9 ⟨A7, c7, rfl, ho9, hb9⟩
      have HX9 := hid ho9
      have HC7 := hid (own_le ho9)
      have HL9 := hid (HL8.out.below hb9)
      have HO9 := hid (own_below HO8.out hb9)
      have HE9 := hid (ev_keep HE8.out hb9)
      clear ho9 hb9 HBY
      obtain ⟨⟨f0, f1, f2, f3, f4⟩, hgf⟩ := HE9.out
      have HEN := hid (rencode_yes ep eo eh ea ex w9 HRI.out.1 HRI.out.2.1 HRI.out.2.2)
      rw [← HRE.out] at HEN
      unfold evv at HEN
      go_wp2_with fail
      clear f0 f1 f2 f3 f4 hgf
      refine HEN.out.mono ?_
      rintro e wa ⟨A8, c8, rfl, hoa, hba⟩
      have HXA := hid (own_below HX9.out hba)
      have HLA := hid (HL9.out.below hba)
      have HOA := hid (own_below HO9.out hba)
      have HRA := hid (own_base hoa (Nat.le_refl _))
      clear hoa hba HEN
      have HPB := hid (rputB_any none A8 0 0 wa.heap.size r.length c8 [] r wa rfl (.inl rfl) (Nat.le_refl _) (by omega) rfl (Sl.of_own HRA.out) (by omega))
      rw [List.nil_append, Nat.zero_add] at HPB
      go_wp2_with fail
      refine HPB.out.mono ?_
      rintro e wc ⟨A9, c9, rfl, hoc, hbc⟩
      have HWC := hid hoc
      have HBC := hid hbc
      have HRC := hid (own_below HRA.out hbc)
      clear hoc hbc HPB
      have HCH := hid (rchain_any A8 r.length c8 _ D r wc rfl (Sl.of_own HRC.out) (by omega) (Nat.le_refl _))
      go_wp2_with fail
      refine HCH.out.mono ?_
      rintro e wd ⟨rfl, hbd⟩
      have HWD := hid (own_below HWC.out hbd)
      have HBD := hid (below_go HBC.out hbd)
      clear hbd HCH
      have HEI := hid (eight_any (chain D r) wd)
      go_wp2_with fail
      refine HEI.out.mono ?_
      rintro e we ⟨Ae, ce, rfl, hoe, hbe⟩
      have HWE := hid (own_below HWD.out hbe)
      have HBE := hid (below_go HBD.out hbe)
      have HEE := hid hoe
      have hsz := HBE.out.size
      clear hoe hbe HEI
      go_wp2_with (at_builtin; refine wp_app83 rfl (.tmp 51) (.tmp 55) rfl wa.heap.size A9 (encB r).length c9 (encB r) rfl HWE.out Ae we.heap.size 8 ce (leb (chain D r) 8) rfl (leb_length _ _) (Sl.of_own HEE.out) Q HQ8.out.symm (by omega) hsz ?_)
      intro A10 c10 wf hof hgf _
      have HBF := hid (below_app HBE.out HWE.out (Nat.le_refl _) hgf)
      have HLF := hid (HLA.out.below HBF.out)
      have HXF := hid (own_below HXA.out HBF.out)
      have HOF := hid (own_below HOA.out HBF.out)
      have HRF := hid (Sl.of_own (own_below HRA.out HBF.out))
      have HWF := hid (show wf.ownsRow wa.heap.size 5 1 (.slice A10 Q c10) Q (bys wb) by rw [HWB.out]; exact hof)
      have hMM := HMM.out
      obtain ⟨g7, hA7, _, _⟩ := own_at HXF.out (by omega)
      subst hA7
      have hcp : ¬ c7 = p := by have := HC7.out; omega
      have hpc : p ≤ c7 := by have := HC7.out; omega
      have hMc : M ≤ c7 := by have := HC7.out; omega
      clear hMM
      have HSV := hid (show ∀ W, Below wf.heap.size wf W → ((convert 38 9 (.slice (some ⟨g7, 0, none⟩) p c7)).run Try.prog W = .ok (.string (strOf lw)) W ∧ (convert 38 9 (.slice A5 p c5)).run Try.prog W = .ok (.string (strOf lw)) W) ∧ (convert 38 9 (.slice (some ⟨g7, p, none⟩) Q (c7 - p))).run Try.prog W = .ok (.string (strOf wb)) W ∧ (convert 38 9 (.slice A10 Q c10)).run Try.prog W = .ok (.string (strOf wb)) W from by
        intro W hW
        have h1 := Sl.of_own (own_below HXF.out hW)
        have e1 : (lw ++ wb).take p = lw := List.take_left' HP.out.symm
        have e2 : (lw ++ wb).drop p = wb := List.drop_left' HP.out.symm
        have h2 := h1.take p
        rw [← bys_take, e1] at h2
        have h3 := h1.cut (k := p) (c := c7) (by rw [bys_length, List.length_append, ← HP.out, ← HQ.out, ← HMM.out]; exact HC7.out) 1 rfl
        rw [if_neg hcp, ← bys_drop, e2] at h3
        simp only [Option.map_some, Addr.add_lit, Nat.zero_add, Nat.mul_one] at h3
        exact ⟨⟨str_any h2 HP.out.symm, str_own (own_below HOF.out hW)⟩, str_any h3 HQ.out.symm, str_own (own_below HWF.out hW)⟩)
      have HL12 := HLF
      clear hof hgf hsz
      go_wp2_with fail
      refine wp_region_noPanic ?_
      refine wp_region_held_drew (S := (fun W => ((convert 38 9 (.slice (some ⟨g7, 0, none⟩) p c7)).run Try.prog W = .ok (.string (strOf lw)) W ∧ (convert 38 9 (.slice A5 p c5)).run Try.prog W = .ok (.string (strOf lw)) W) ∧ (convert 38 9 (.slice (some ⟨g7, p, none⟩) Q (c7 - p))).run Try.prog W = .ok (.string (strOf wb)) W ∧ (convert 38 9 (.slice A10 Q c10)).run Try.prog W = .ok (.string (strOf wb)) W)) (by kernel_rfl) (HSV.out _ (Below.refl _ _).drew) (fun hH0 => ?_)
      refine wpAnyH_ready (rs := [0]) (by kernel_rfl) (by simp) ?_
      refine AllReadyH.cons rfl (fun K hK => ?_) AllReadyH.nil
      simp only [List.getElem_toArray, List.getElem_cons_zero]
      go_simp
      refine (awake_any _).mono ?_
      rintro e w10 ⟨rfl, hb10⟩
      have HK10 := hid (undrew hb10)
      have HL10 := hid (HLF.out.below HK10.out)
      clear hb10
      refine hK.out _ _ (HSV.out _ HK10.out) (fun hH1 => ?_)
      clear hK K hH0
      try simp only [Act.put, List.setIfInBounds_toArray, List.set_cons_zero, List.set_cons_succ]
      refine wpAnyH_take (i := 1) (v := ?_) rfl (by kernel_rfl) (by kernel_rfl) (by kernel_rfl) (fun _ _ _ h => h) (Or.inl ⟨by rfl, ?_⟩) hH1 ?_
      rotate_left
      · (intro w hSw; (try dsimp only at hSw); go_simp; try (with_reducible rfl))
      try simp only [Act.put, List.getElem_toArray, List.getElem_cons_zero, List.getElem_cons_succ, List.setIfInBounds_toArray, List.set_cons_zero, List.set_cons_succ]
      refine wpAnyH_take (i := 2) (v := ?_) rfl (by kernel_rfl) (by kernel_rfl) (by kernel_rfl) (fun _ _ _ h => h) (Or.inl ⟨by rfl, ?_⟩) hH1 ?_
      rotate_left
      · (intro w hSw; (try dsimp only at hSw); go_simp; try (with_reducible rfl))
      try simp only [Act.put, List.getElem_toArray, List.getElem_cons_zero, List.getElem_cons_succ, List.setIfInBounds_toArray, List.set_cons_zero, List.set_cons_succ]
      refine wpAnyH_take (i := 3) (v := ?_) rfl (by kernel_rfl) (by kernel_rfl) (by kernel_rfl) (fun _ _ _ h => h) (Or.inl ⟨by rfl, ?_⟩) hH1 ?_
      rotate_left
      · (intro w hSw; (try dsimp only at hSw); go_simp; try (with_reducible rfl))
      try simp only [Act.put, List.getElem_toArray, List.getElem_cons_zero, List.getElem_cons_succ, List.setIfInBounds_toArray, List.set_cons_zero, List.set_cons_succ]
      refine wpAnyH_take (i := 4) (v := ?_) rfl (by kernel_rfl) (by kernel_rfl) (by kernel_rfl) (fun _ _ _ h => h) (Or.inl ⟨by rfl, ?_⟩) hH1 ?_
      rotate_left
      · (intro w hSw; (try dsimp only at hSw); go_simp; try (with_reducible rfl))
      try simp only [Act.put, List.getElem_toArray, List.getElem_cons_zero, List.getElem_cons_succ, List.setIfInBounds_toArray, List.set_cons_zero, List.set_cons_succ]
      refine wpAnyH_take (i := 5) (v := ?_) rfl (by kernel_rfl) (by kernel_rfl) (by kernel_rfl) (fun _ _ _ h => h) (Or.inl ⟨by rfl, ?_⟩) hH1 ?_
      rotate_left
      · (intro w hSw; (try dsimp only at hSw); go_simp; try (with_reducible rfl))
      try simp only [Act.put, List.getElem_toArray, List.getElem_cons_zero, List.getElem_cons_succ, List.setIfInBounds_toArray, List.set_cons_zero, List.set_cons_succ]
      refine wpAnyH_take (i := 6) (v := ?_) rfl (by kernel_rfl) (by kernel_rfl) (by kernel_rfl) (fun _ _ _ h => h) (Or.inl ⟨by rfl, ?_⟩) hH1 ?_
      rotate_left
      · (intro w hSw; (try dsimp only at hSw); go_simp; try (with_reducible rfl))
      try simp only [Act.put, List.getElem_toArray, List.getElem_cons_zero, List.getElem_cons_succ, List.setIfInBounds_toArray, List.set_cons_zero, List.set_cons_succ]
      refine wpAnyH_take (i := 7) (v := ?_) rfl (by kernel_rfl) (by kernel_rfl) (by kernel_rfl) (fun _ _ _ h => h) (Or.inl ⟨by rfl, ?_⟩) hH1 ?_
      rotate_left
      · (intro w hSw; (try dsimp only at hSw); go_simp; try (with_reducible rfl))
      try simp only [Act.put, List.getElem_toArray, List.getElem_cons_zero, List.getElem_cons_succ, List.setIfInBounds_toArray, List.set_cons_zero, List.set_cons_succ]
      refine wpAnyH_take (i := 8) (v := ?_) rfl (by kernel_rfl) (by kernel_rfl) (by kernel_rfl) (fun _ _ _ h => h) (Or.inl ⟨by rfl, ?_⟩) hH1 ?_
      rotate_left
      · (intro w hSw; (try dsimp only at hSw); go_simp; try (with_reducible rfl))
      try simp only [Act.put, List.getElem_toArray, List.getElem_cons_zero, List.getElem_cons_succ, List.setIfInBounds_toArray, List.set_cons_zero, List.set_cons_succ]
      refine wpAnyH_take (i := 9) (v := ?_) rfl (by kernel_rfl) (by kernel_rfl) (by kernel_rfl) (fun _ _ _ h => h) (Or.inl ⟨by rfl, ?_⟩) hH1 ?_
      rotate_left
      · (intro w hSw; (try dsimp only at hSw); go_simp; try (with_reducible rfl))
      try simp only [Act.put, List.getElem_toArray, List.getElem_cons_zero, List.getElem_cons_succ, List.setIfInBounds_toArray, List.set_cons_zero, List.set_cons_succ]
      refine wpAnyH_take (i := 10) (v := ?_) rfl (by kernel_rfl) (by kernel_rfl) (by kernel_rfl) (fun _ _ _ h => h) (Or.inl ⟨by rfl, ?_⟩) hH1 ?_
      rotate_left
      · (intro w hSw; (try dsimp only at hSw); go_simp; try (with_reducible rfl))
      try simp only [Act.put, List.getElem_toArray, List.getElem_cons_zero, List.getElem_cons_succ, List.setIfInBounds_toArray, List.set_cons_zero, List.set_cons_succ]
      refine wpAnyH_take (i := 11) (v := ?_) rfl (by kernel_rfl) (by kernel_rfl) (by kernel_rfl) (fun _ _ _ h => h) (Or.inl ⟨by rfl, ?_⟩) hH1 ?_
      rotate_left
      · (intro w hSw; (try dsimp only at hSw); go_simp; try (with_reducible rfl))
      try simp only [Act.put, List.getElem_toArray, List.getElem_cons_zero, List.getElem_cons_succ, List.setIfInBounds_toArray, List.set_cons_zero, List.set_cons_succ]
      refine wpAnyH_take (i := 12) (v := ?_) rfl (by kernel_rfl) (by kernel_rfl) (by kernel_rfl) (fun _ _ _ h => h) (Or.inl ⟨by rfl, ?_⟩) hH1 ?_
      rotate_left
      · (intro w hSw; (try dsimp only at hSw); go_simp; try (with_reducible rfl))
      try simp only [Act.put, List.getElem_toArray, List.getElem_cons_zero, List.getElem_cons_succ, List.setIfInBounds_toArray, List.set_cons_zero, List.set_cons_succ]
      refine wpAnyH_take (i := 13) (v := ?_) rfl (by kernel_rfl) (by kernel_rfl) (by kernel_rfl) (fun _ _ _ h => h) (Or.inl ⟨by rfl, ?_⟩) hH1 ?_
      rotate_left
      · (intro w hSw; (try dsimp only at hSw); go_simp; try (with_reducible rfl))
      try simp only [Act.put, List.getElem_toArray, List.getElem_cons_zero, List.getElem_cons_succ, List.setIfInBounds_toArray, List.set_cons_zero, List.set_cons_succ]
      refine wpAnyH_take (i := 14) (v := ?_) rfl (by kernel_rfl) (by kernel_rfl) (by kernel_rfl) (fun _ _ _ h => h) (Or.inl ⟨by rfl, ?_⟩) hH1 ?_
      rotate_left
      · (intro w hSw; (try dsimp only at hSw); go_simp; try (with_reducible rfl))
      try simp only [Act.put, List.getElem_toArray, List.getElem_cons_zero, List.getElem_cons_succ, List.setIfInBounds_toArray, List.set_cons_zero, List.set_cons_succ]
      refine wpAnyH_take (i := 15) (v := ?_) rfl (by kernel_rfl) (by kernel_rfl) (by kernel_rfl) (fun _ _ _ h => h) (Or.inl ⟨by rfl, ?_⟩) hH1 ?_
      rotate_left
      · (intro w hSw; (try dsimp only at hSw); go_simp; try (with_reducible rfl))
      try simp only [Act.put, List.getElem_toArray, List.getElem_cons_zero, List.getElem_cons_succ, List.setIfInBounds_toArray, List.set_cons_zero, List.set_cons_succ]
      refine wpAnyH_take (i := 16) (v := ?_) rfl (by kernel_rfl) (by kernel_rfl) (by kernel_rfl) (fun _ _ _ h => h) (Or.inl ⟨by rfl, ?_⟩) hH1 ?_
      rotate_left
      · (intro w hSw; (try dsimp only at hSw); go_simp; try (with_reducible rfl))
      try simp only [Act.put, List.getElem_toArray, List.getElem_cons_zero, List.getElem_cons_succ, List.setIfInBounds_toArray, List.set_cons_zero, List.set_cons_succ]
      refine wpAnyH_take (i := 17) (v := ?_) rfl (by kernel_rfl) (by kernel_rfl) (by kernel_rfl) (fun _ _ _ h => h) (Or.inl ⟨by rfl, ?_⟩) hH1 ?_
      rotate_left
      · (intro w hSw; (try dsimp only at hSw); go_simp; try (with_reducible rfl))
      try simp only [Act.put, List.getElem_toArray, List.getElem_cons_zero, List.getElem_cons_succ, List.setIfInBounds_toArray, List.set_cons_zero, List.set_cons_succ]
      refine wpAnyH_take (i := 18) (v := ?_) rfl (by kernel_rfl) (by kernel_rfl) (by kernel_rfl) (fun _ _ _ h => h) (Or.inl ⟨by rfl, ?_⟩) hH1 ?_
      rotate_left
      · (intro w hSw; (try dsimp only at hSw); go_simp; try (with_reducible rfl))
      try simp only [Act.put, List.getElem_toArray, List.getElem_cons_zero, List.getElem_cons_succ, List.setIfInBounds_toArray, List.set_cons_zero, List.set_cons_succ]
      refine wpAnyH_take (i := 19) (v := ?_) rfl (by kernel_rfl) (by kernel_rfl) (by kernel_rfl) (fun _ _ _ h => h) (Or.inl ⟨by rfl, ?_⟩) hH1 ?_
      rotate_left
      · (intro w hSw; (try dsimp only at hSw); go_simp; try (with_reducible rfl))
      try simp only [Act.put, List.getElem_toArray, List.getElem_cons_zero, List.getElem_cons_succ, List.setIfInBounds_toArray, List.set_cons_zero, List.set_cons_succ]
      refine wpAnyH_take (i := 20) (v := ?_) rfl (by kernel_rfl) (by kernel_rfl) (by kernel_rfl) (fun _ _ _ h => h) (Or.inl ⟨by rfl, ?_⟩) hH1 ?_
      rotate_left
      · (intro w hSw; (try dsimp only at hSw); go_simp; try (with_reducible rfl))
      try simp only [Act.put, List.getElem_toArray, List.getElem_cons_zero, List.getElem_cons_succ, List.setIfInBounds_toArray, List.set_cons_zero, List.set_cons_succ]
      refine wpAnyH_take (i := 21) (v := ?_) rfl (by kernel_rfl) (by kernel_rfl) (by kernel_rfl) (fun _ _ _ h => h) (Or.inl ⟨by rfl, ?_⟩) hH1 ?_
      rotate_left
      · (intro w hSw; (try dsimp only at hSw); go_simp; try (with_reducible rfl))
      try simp only [Act.put, List.getElem_toArray, List.getElem_cons_zero, List.getElem_cons_succ, List.setIfInBounds_toArray, List.set_cons_zero, List.set_cons_succ]
      refine wpAnyH_take (i := 22) (v := ?_) rfl (by kernel_rfl) (by kernel_rfl) (by kernel_rfl) (fun _ _ _ h => h) (Or.inl ⟨by rfl, ?_⟩) hH1 ?_
      rotate_left
      · (intro w hSw; (try dsimp only at hSw); go_simp; try (with_reducible rfl))
      try simp only [Act.put, List.getElem_toArray, List.getElem_cons_zero, List.getElem_cons_succ, List.setIfInBounds_toArray, List.set_cons_zero, List.set_cons_succ]
      refine wpAnyH_take (i := 23) (v := ?_) rfl (by kernel_rfl) (by kernel_rfl) (by kernel_rfl) (fun _ _ _ h => h) (Or.inl ⟨by rfl, ?_⟩) hH1 ?_
      rotate_left
      · (intro w hSw; (try dsimp only at hSw); go_simp; try (with_reducible rfl))
      try simp only [Act.put, List.getElem_toArray, List.getElem_cons_zero, List.getElem_cons_succ, List.setIfInBounds_toArray, List.set_cons_zero, List.set_cons_succ]
      refine wpAnyH_take (i := 24) (v := ?_) rfl (by kernel_rfl) (by kernel_rfl) (by kernel_rfl) (fun _ _ _ h => h) (Or.inl ⟨by rfl, ?_⟩) hH1 ?_
      rotate_left
      · (intro w hSw; (try dsimp only at hSw); go_simp; try (with_reducible rfl))
      try simp only [Act.put, List.getElem_toArray, List.getElem_cons_zero, List.getElem_cons_succ, List.setIfInBounds_toArray, List.set_cons_zero, List.set_cons_succ]
      refine wpAnyH_take (i := 25) (v := ?_) rfl (by kernel_rfl) (by kernel_rfl) (by kernel_rfl) (fun _ _ _ h => h) (Or.inl ⟨by rfl, ?_⟩) hH1 ?_
      rotate_left
      · (intro w hSw; (try dsimp only at hSw); go_simp; try (with_reducible rfl))
      try simp only [Act.put, List.getElem_toArray, List.getElem_cons_zero, List.getElem_cons_succ, List.setIfInBounds_toArray, List.set_cons_zero, List.set_cons_succ]
      refine wpAnyH_take (i := 26) (v := ?_) rfl (by kernel_rfl) (by kernel_rfl) (by kernel_rfl) (fun _ _ _ h => h) (Or.inl ⟨by rfl, ?_⟩) hH1 ?_
      rotate_left
      · (intro w hSw; (try dsimp only at hSw); go_simp; try (with_reducible rfl))
      try simp only [Act.put, List.getElem_toArray, List.getElem_cons_zero, List.getElem_cons_succ, List.setIfInBounds_toArray, List.set_cons_zero, List.set_cons_succ]
      refine wpAnyH_take (i := 27) (v := ?_) rfl (by kernel_rfl) (by kernel_rfl) (by kernel_rfl) (fun _ _ _ h => h) (Or.inl ⟨by rfl, ?_⟩) hH1 ?_
      rotate_left
      · (intro w hSw; (try dsimp only at hSw); go_simp; try (with_reducible rfl))
      try simp only [Act.put, List.getElem_toArray, List.getElem_cons_zero, List.getElem_cons_succ, List.setIfInBounds_toArray, List.set_cons_zero, List.set_cons_succ]
      refine wpAnyH_take (i := 28) (v := ?_) rfl (by kernel_rfl) (by kernel_rfl) (by kernel_rfl) (fun _ _ _ h => h) (Or.inl ⟨by rfl, ?_⟩) hH1 ?_
      rotate_left
      · (intro w hSw; (try dsimp only at hSw); go_simp; try (with_reducible rfl))
      try simp only [Act.put, List.getElem_toArray, List.getElem_cons_zero, List.getElem_cons_succ, List.setIfInBounds_toArray, List.set_cons_zero, List.set_cons_succ]
      refine wpAnyH_take (i := 29) (v := ?_) rfl (by kernel_rfl) (by kernel_rfl) (by kernel_rfl) (fun _ _ _ h => h) (Or.inl ⟨by rfl, ?_⟩) hH1 ?_
      rotate_left
      · (intro w hSw; (try dsimp only at hSw); go_simp; try (with_reducible rfl))
      try simp only [Act.put, List.getElem_toArray, List.getElem_cons_zero, List.getElem_cons_succ, List.setIfInBounds_toArray, List.set_cons_zero, List.set_cons_succ]
      refine wpAnyH_take (i := 30) (v := ?_) rfl (by kernel_rfl) (by kernel_rfl) (by kernel_rfl) (fun _ _ _ h => h) (Or.inl ⟨by rfl, ?_⟩) hH1 ?_
      rotate_left
      · (intro w hSw; (try dsimp only at hSw); go_simp; try (with_reducible rfl))
      try simp only [Act.put, List.getElem_toArray, List.getElem_cons_zero, List.getElem_cons_succ, List.setIfInBounds_toArray, List.set_cons_zero, List.set_cons_succ]
      refine wpAnyH_take (i := 31) (v := ?_) rfl (by kernel_rfl) (by kernel_rfl) (by kernel_rfl) (fun _ _ _ h => h) (Or.inl ⟨by rfl, ?_⟩) hH1 ?_
      rotate_left
      · (intro w hSw; (try dsimp only at hSw); go_simp; try (with_reducible rfl))
      try simp only [Act.put, List.getElem_toArray, List.getElem_cons_zero, List.getElem_cons_succ, List.setIfInBounds_toArray, List.set_cons_zero, List.set_cons_succ]
      refine wpAnyH_take (i := 32) (v := ?_) rfl (by kernel_rfl) (by kernel_rfl) (by kernel_rfl) (fun _ _ _ h => h) (Or.inl ⟨by rfl, ?_⟩) hH1 ?_
      rotate_left
      · (intro w hSw; (try dsimp only at hSw); go_simp; try (with_reducible rfl))
      try simp only [Act.put, List.getElem_toArray, List.getElem_cons_zero, List.getElem_cons_succ, List.setIfInBounds_toArray, List.set_cons_zero, List.set_cons_succ]
      refine wpAnyH_take (i := 34) (v := ?_) rfl (by kernel_rfl) (by kernel_rfl) (by kernel_rfl) (fun _ _ _ h => h) (Or.inl ⟨by rfl, ?_⟩) hH1 ?_
      rotate_left
      · (intro w hSw; (try dsimp only at hSw); go_simp; try (with_reducible rfl))
      try simp only [Act.put, List.getElem_toArray, List.getElem_cons_zero, List.getElem_cons_succ, List.setIfInBounds_toArray, List.set_cons_zero, List.set_cons_succ]
      refine wpAnyH_take (i := 35) (v := ?_) rfl (by kernel_rfl) (by kernel_rfl) (by kernel_rfl) (fun _ _ _ h => h) (Or.inl ⟨by rfl, ?_⟩) hH1 ?_
      rotate_left
      · (intro w hSw; (try dsimp only at hSw); go_simp; try (with_reducible rfl))
      try simp only [Act.put, List.getElem_toArray, List.getElem_cons_zero, List.getElem_cons_succ, List.setIfInBounds_toArray, List.set_cons_zero, List.set_cons_succ]
      refine wpAnyH_ready (rs := [33]) (by kernel_rfl) (by simp) ?_
      refine AllReadyH.cons rfl (fun K hK => ?_) AllReadyH.nil
      simp only [List.getElem_toArray, List.getElem_cons_zero, List.getElem_cons_succ]
      go_simp
      have HDG := hid (lg_digest w3 w10 g 100 _ _ _ HL10.out)
      rw [endD_snoc, ← HDE.out, show encV (ep, eo, eh, ea, ex) = r from HRE.out.symm] at HDG
      refine HDG.out.mono ?_
      rintro e w10 ⟨rfl, rfl⟩
      refine hK.out _ _ (HSV.out _ HK10.out) (fun hH2 => ?_)
      clear hK K hH1
      try simp only [Act.put, List.setIfInBounds_toArray, List.set_cons_zero, List.set_cons_succ]
      refine wpAnyH_ready (rs := [36]) (by kernel_rfl) (by simp) ?_
      refine AllReadyH.cons rfl (fun K hK => ?_) AllReadyH.nil
      simp only [List.getElem_toArray, List.getElem_cons_zero, List.getElem_cons_succ]
      go_simp
      have HCH := hid (rchain_any A8 r.length c8 _ D r _ rfl (HRF.out.go HK10.out) (by omega) (Nat.le_refl _))
      refine HCH.out.mono ?_
      rintro e w12 ⟨rfl, hb12⟩
      have HK12 := hid (below_go HK10.out hb12)
      have HL12 := hid (HL10.out.below hb12)
      clear hb12
      refine hK.out _ _ (HSV.out _ HK12.out) (fun hH3 => ?_)
      clear hK K hH2
      try simp only [Act.put, List.setIfInBounds_toArray, List.set_cons_zero, List.set_cons_succ]
      refine wpAnyH_take (i := 37) (v := ?_) rfl (by kernel_rfl) (by kernel_rfl) (by kernel_rfl) (fun _ _ _ h => h) (Or.inl ⟨by rfl, ?_⟩) hH3 ?_
      rotate_left
      · (intro w hSw; (try dsimp only at hSw); go_simp; try (with_reducible rfl))
      try simp only [Act.put, List.getElem_toArray, List.getElem_cons_zero, List.getElem_cons_succ, List.setIfInBounds_toArray, List.set_cons_zero, List.set_cons_succ]
      refine wpAnyH_take (i := 38) (v := ?_) rfl (by kernel_rfl) (by kernel_rfl) (by kernel_rfl) (fun _ _ _ h => h) (Or.inl ⟨by rfl, ?_⟩) hH3 ?_
      rotate_left
      · (intro w hSw; (try dsimp only at hSw); go_simp; try (with_reducible rfl))
      try simp only [Act.put, List.getElem_toArray, List.getElem_cons_zero, List.getElem_cons_succ, List.setIfInBounds_toArray, List.set_cons_zero, List.set_cons_succ]
      refine wpAnyH_take (i := 39) (v := ?_) rfl (by kernel_rfl) (by kernel_rfl) (by kernel_rfl) (fun _ _ _ h => h) (Or.inl ⟨by rfl, ?_⟩) hH3 ?_
      rotate_left
      · (intro w hSw; (try dsimp only at hSw); go_simp; try (with_reducible rfl))
      try simp only [Act.put, List.getElem_toArray, List.getElem_cons_zero, List.getElem_cons_succ, List.setIfInBounds_toArray, List.set_cons_zero, List.set_cons_succ]
      refine wpAnyH_done (by kernel_rfl) ?_ _
      refine NoPanic.normal ?_
      go_wp2_with fail
      go_ret
      exact ⟨rfl, HB3.out.trans (HL12.out.frame HB3.out.size (by have := HG.out; omega))⟩
end Go.Proofs.Ytmhmaodnkifcaaa
