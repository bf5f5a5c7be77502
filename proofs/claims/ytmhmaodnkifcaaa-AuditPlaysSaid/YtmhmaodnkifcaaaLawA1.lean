/-
  AuditCapacity walked.
-/
import Derived.Test.YtmhmaodnkifcaaaPlay
import Derived.Test.YtmhmaodnkifcaaaTapeOf
namespace Go.Proofs.Ytmhmaodnkifcaaa
open Go.RowKit
set_option linter.unusedSimpArgs false
set_option linter.unusedVariables false

theorem u16_lt {z : Int} (h : (Lit.int .u16 z).wf = true) : 0 ≤ z ∧ z < 65536 := by
  simp [Lit.wf, IntKind.min, IntKind.max, IntKind.signed, IntKind.bits] at h
  omega
/-- What a tape made in a world leaves of it, when it has been read. -/
theorem made_below {B : Nat} {w w1 w2 : World} {lo hi g n i : Nat} (h : Below B w w1) (hB : B ≤ w1.heap.size) (hg : w1.grownBy w2 (some g)) (hlo : B ≤ lo) (ht : Tp w1 lo hi g n i) : Below B w w2 :=
  h.grown hg hB (fun k hk => by
    obtain ⟨A, c, _, _, _, h3, _⟩ := ht
    simp at hk
    omega)
/-- No record of a plugin of which there is no event. -/
theorem recN_none {es : List Ev} {k : Int} (h : ∀ e ∈ es, (e.1 : Int) ≠ k) : recN es k = 0 := by
  unfold recN
  rw [List.length_eq_zero_iff, List.filter_eq_nil_iff]
  intro e he
  have := h e he
  simp [this]
theorem recN_apE (cap : Nat) (es : List Ev) (p o h a x : Nat) (hc : cntE (p, o, h, a, x) = true) (hle : recN es p ≤ cap) : recN (apE cap es (p, o, h, a, x)) p = min (recN es p + 1) cap := by
  unfold apE
  by_cases hr : recN es p < cap
  · rw [if_neg (by simp [hr]), recN_snoc, if_pos hc]
    unfold bump
    rw [if_pos rfl]
    omega
  · rw [if_pos (by simp [hc, hr])]
    omega
theorem recN_free (cap : Nat) (es : List Ev) (p o h a x : Nat) (hc : cntE (p, o, h, a, x) = false) (k : Int) : recN (apE cap es (p, o, h, a, x)) k = recN es k := by
  unfold apE
  rw [if_neg (by simp [hc]), recN_snoc, if_neg (by simp [hc])]

set_option maxRecDepth 100000 in
set_option maxHeartbeats 2000000 in
theorem capacity_walk (A : Option Addr) (n c : Nat) (zs : List Int) (cp pl : Nat) (w : World) (hz : ∀ z ∈ zs, 0 ≤ z ∧ z < 65536) (hn : zs.length = n) (hc : n ≤ c) (hs : Sl w w.heap.size A (nums .u16 zs)) :
    Calls Try.prog 5 #[.int .u8 cp, .slice A n c, .int .u8 pl] w fun e w' => e = .returned (.bool true) ∧ Below w.heap.size w w' := by
  have HO := hid (fun (w' : World) (h : Below w.heap.size w w') => of_any A n c 160 zs w' hz hn hc (hs.go h) (by omega))
  clear hz hn hc hs
  obtain ⟨m, hm⟩ : ∃ m : Nat, m = cp % 6 := ⟨_, rfl⟩
  have hm1 : (cp : Int).tmod 6 = (m : Int) := by rw [hm]; rfl
  have hm6 : m < 6 := by omega
  obtain ⟨r, hr⟩ : ∃ r : Nat, r = pl % 3 := ⟨_, rfl⟩
  have hr1 : (pl : Int).tmod 3 = (r : Int) := by rw [hr]; rfl
  have hr3 : r < 3 := by omega
  obtain ⟨p, hp⟩ : ∃ p : Nat, p = 4 + r := ⟨_, rfl⟩
  have hpi : (4 : Int) + (r : Int) = (p : Int) := by omega
  have hp4 : 4 ≤ p := by omega
  have hp6 : p ≤ 6 := by omega
  clear hm hr hp
  have HN := hid (new_ok m w (by omega))
  go_enter Try.func5, Try.ntmps5
  go_wp2_with fail
  refine HN.out.mono ?_
  rintro e w1 ⟨g, hg, rfl, hL, hb⟩
  have HL := hid hL
  have HB := hid hb
  have HG := hid hg
  clear hL hb hg HN
  have HO1 := hid (HO.out w1 HB.out)
  go_wp2_with fail
  refine HO1.out.mono ?_
  rintro e w2 ⟨gt, N, rfl, hN, ht2, hb2⟩
  have HT2 := hid ht2
  have HB12 := hid hb2
  have HEV := hid (events_any _ _ gt N 0 24 w2 ht2 (by omega) (by omega))
  clear hb2 ht2 HO1
  go_wp2_with fail
  refine HEV.out.mono ?_
  rintro e w3 ⟨es, A3, c3, rfl, hes, he3, ho3, hg3⟩
  have HB13 := hid (made_below HB12.out HB12.out.size hg3 (Nat.le_refl _) HT2.out)
  have HL3 := hid (Lg.start (HL.out.below HB13.out))
  have HB3 := hid (below_go HB.out HB13.out)
  have HE3 := hid he3
  have HO3 := hid ho3
  have HRG := hid (show (Value.slice A3 es.length c3).ownBlock ≠ some g from fun e => by have := (HO3.out.lt g e).1; have := HG.out; have := HB.out.size; have := HB12.out.size; obtain ⟨F, h, _⟩ := HL3.out; have := (HL.out.below (Below.refl _ _)); obtain ⟨_, _, _, _, _, _, _, hX, _⟩ := HL.out.open; have := hX.fs g hX.f0; omega)
  obtain ⟨ne, hne⟩ : ∃ ne, ne = es.length := ⟨_, rfl⟩
  have HNE := hid hne
  rw [← hne] at HRG HO3 hes
  clear he3 ho3 hg3 HEV
  go_wp2_with fail
  rw [← hne]
  clear hne
  go_loopw [34] (fun i wr => ∃ k : Nat, k ≤ ne ∧ i = .int .i64 k ∧ Lg w3 g m (plays m (es.take k)) (fun _ => 0) k wr) (fun i _ => ne - (intOf i).toNat)
  case atStart => exact ⟨0, Nat.zero_le _, rfl, by simpa [plays] using HL3.out⟩
  case round =>
    obtain ⟨k, hk, rfl, hl⟩ := hrel
    have HLR := hid hl
    clear hl
    by_cases hlt : k < ne
    · have hlt' : k < es.length := by rw [← HNE.out]; exact hlt
      obtain ⟨b, rfl, hb1, hb2, hob, q0, q1, q2, q3, q4⟩ := ev_at HO3.out HNE.out.symm hlt'
      have hbg : b ≠ g := fun e => HRG.out (by rw [hob, e])
      have q0 := HLR.out.cell q0 hbg
      have q1 := HLR.out.cell q1 hbg
      have q2 := HLR.out.cell q2 hbg
      have q3 := HLR.out.cell q3 hbg
      have q4 := HLR.out.cell q4 hbg
      have HST := hid (plays_take m es k hlt')
      have HRI := hid (HE3.out _ (List.getElem_mem hlt')).1
      obtain ⟨⟨p1, o1, h1, a1, x1⟩, hev⟩ : ∃ v, es[k] = v := ⟨_, rfl⟩
      rw [hev] at q0 q1 q2 q3 q4 HST HRI
      simp only at q0 q1 q2 q3 q4
      clear hev hb1 hb2 hob
      have HLB := hid (HLR.out.below (below_new wr #[.int .i64 (p1 : Int), .int .i64 (o1 : Int), .int .u64 (h1 : Int), .int .u64 (a1 : Int), .int .i64 (x1 : Int)] 36))
      have HAP := hid (lg_append w3 _ g m k _ _ p1 o1 h1 a1 x1 HLB.out HRI.out (by omega))
      unfold evv at HAP
      go_wp2_with fail
      refine HAP.out.mono ?_
      rintro e w4 ⟨rfl, hl4⟩
      rw [← HST.out] at hl4
      have HL4 := hid hl4
      clear hl4 q0 q1 q2 q3 q4
      go_wp2_with fail
      go_roundw
      case rel => exact ⟨k + 1, by omega, by go_num, HL4.out⟩
      case measure => simp [intOf]; omega
    · obtain rfl : ne = k := by omega
      have HLW := hid (show Lg w3 g m (plays m es) (fun _ => 0) ne wr by have := HLR.out; rw [HNE.out, List.take_length, ← HNE.out] at this; exact this)
      have HR0 := hid (show recN (plays m es) p = min 0 m by
        rw [recN_none]
        · simp
        · intro e he h
          have := (HE3.out e (plays_mem _ _ he)).2
          omega)
      have hev : ∀ o x : Nat, (o = 4 ∨ o = 32 ∨ o = 33) → Right (p, o, 0, 0, 0) := by
        intro o x ho
        unfold Right EvOK
        refine ⟨?_, by simp, by simp⟩
        simp only
        omega
      have HEV := hid hev
      have hwf : (Lit.int .i64 (p : Int)).wf = true := by
        simp [Lit.wf, IntKind.min, IntKind.max, IntKind.signed, IntKind.bits]
        omega
      have HWF := hid hwf
      clear hev hwf
      go_wp2_with fail
      go_loopw [13] (fun i wr => ∃ (k : Nat) (L : List Ev), k ≤ m + 2 ∧ i = .int .i64 k ∧ Lg w3 g m L (fun _ => 0) (ne + k) wr ∧ recN L p = min k m) (fun i _ => m + 2 - (intOf i).toNat)
      case atStart => exact ⟨0, _, Nat.zero_le _, rfl, HLW.out, HR0.out⟩
      case round =>
        obtain ⟨k, L, hk, rfl, hl, hrec⟩ := hrel
        have HLQ := hid hl
        have HRC := hid hrec
        clear hl hrec
        by_cases hlt : k < m + 2
        · have HRM := hid (lg_room w3 wr g m _ L _ p HLQ.out HWF.out)
          rw [HRC.out] at HRM
          have hlti : (k : Int) < (m : Int) + 2 := by omega
          go_wp2_with fail
          refine HRM.out.mono ?_
          rintro e w4 ⟨rfl, hb4⟩
          have HL4 := hid (HLQ.out.below hb4)
          clear hb4 HRM
          have HAP := hid (lg_append w3 w4 g m _ L _ p 4 0 0 0 HL4.out (HEV.out 4 0 (by omega)) (by omega))
          unfold evv at HAP
          have HRA := hid (recN_apE m L p 4 0 0 0 rfl (by rw [HRC.out]; omega))
          have hap : apR m L (p, 4, 0, 0, 0) = if k < m then 0 else 19 := by
            unfold apR
            simp only [HRC.out]
            by_cases h : k < m
            · rw [if_pos h, if_neg (by simp; intro _; omega)]
            · rw [if_neg h, if_pos (by simp [cntE]; omega)]
          rw [hap] at HAP
          have HAD := hid hap
          clear hap
          by_cases hkm : k < m
          · rw [if_pos hkm] at HAP
            have h1 : decide (min k m < m) = true := by simp; omega
            rw [h1]
            go_wp2_with fail
            refine HAP.out.mono ?_
            rintro e w5 ⟨rfl, hl5⟩
            have HL5 := hid hl5
            clear hl5 h1
            go_wp2_with fail
            go_roundw
            case rel => exact ⟨k + 1, _, by omega, by go_num, HL5.out, by rw [HRA.out, HRC.out]; omega⟩
            case measure => simp [intOf]; omega
          · rw [if_neg hkm] at HAP
            have h1 : decide (min k m < m) = false := by simp; omega
            rw [h1]
            have hki : ¬ (k : Int) < (m : Int) := by omega
            go_wp2_with fail
            refine HAP.out.mono ?_
            rintro e w5 ⟨rfl, hl5⟩
            have HL5 := hid hl5
            clear hl5 h1
            go_wp2_with fail
            go_roundw
            case rel => exact ⟨k + 1, _, by omega, by go_num, HL5.out, by rw [HRA.out, HRC.out]; omega⟩
            case measure => simp [intOf]; omega
        · obtain rfl : k = m + 2 := by omega
          have hlti : ¬ ((m + 2 : Nat) : Int) < (m : Int) + 2 := by omega
          go_wp2_with fail
          refine (awake_any _).mono ?_
          rintro e w4 ⟨rfl, hb4⟩
          have HL4 := hid (HLQ.out.below hb4)
          clear hb4 hlti
          have HAP := hid (lg_append w3 w4 g m _ L _ p 32 0 0 0 HL4.out (HEV.out 32 0 (by omega)) (by omega))
          rw [show apR m L (p, 32, 0, 0, 0) = 0 from rfl] at HAP
          unfold evv at HAP
          go_wp2_with fail
          refine HAP.out.mono ?_
          rintro e w5 ⟨rfl, hl5⟩
          have HL5 := hid hl5
          clear hl5 HAP
          have HAP := hid (lg_append w3 w5 g m _ _ _ p 33 0 0 0 HL5.out (HEV.out 33 0 (by omega)) (by omega))
          rw [show apR m (apE m L (p, 32, 0, 0, 0)) (p, 33, 0, 0, 0) = 0 from rfl] at HAP
          unfold evv at HAP
          go_wp2_with fail
          refine HAP.out.mono ?_
          rintro e w6 ⟨rfl, hl6⟩
          have HL6 := hid hl6
          clear hl6 HAP
          have HRE := hid (lg_records w3 w6 g m _ _ _ p HL6.out HWF.out)
          rw [recN_free _ _ _ _ _ _ _ rfl, recN_free _ _ _ _ _ _ _ rfl, HRC.out, show min (m + 2) m = m by omega] at HRE
          go_wp2_with fail
          refine HRE.out.mono ?_
          rintro e w7 ⟨rfl, rfl⟩
          go_wp2_with fail
          go_ret
          exact ⟨by simp, HB3.out.trans (HL6.out.frame (HB3.out.size) (by have := HG.out; omega))⟩
end Go.Proofs.Ytmhmaodnkifcaaa
