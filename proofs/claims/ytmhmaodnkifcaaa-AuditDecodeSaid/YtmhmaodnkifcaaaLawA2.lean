/-
  AuditBack walked.
-/
import Derived.Test.YtmhmaodnkifcaaaLawA1
import Derived.Test.YtmhmaodnkifcaaaSameE
namespace Go.Proofs.Ytmhmaodnkifcaaa
open Go.RowKit
set_option linter.unusedSimpArgs false
set_option linter.unusedVariables false

theorem logB_ge (es : List Ev) : ∀ d, es.length ≤ (logB d es).length := by
  induction es with
  | nil => intro d; simp
  | cons e es ih =>
    intro d
    have := ih (chain d (encV e))
    rw [logB, List.length_append, List.length_cons]
    simp only [recB, List.length_append, leb_length]
    omega
theorem resL_logB (es : List Ev) (h : ∀ e ∈ es, Right e) : resL (logB fStart es) = (es, 0) := by
  unfold resL
  rw [decL_logB es _ _ (logB_ge es _) h]
  rfl
theorem ap_cases (cap : Nat) (es : List Ev) (e : Ev) : (apR cap es e = 0 ∧ apE cap es e = es ++ [e]) ∨ (apR cap es e = 19 ∧ apE cap es e = es) := by
  unfold apR apE
  by_cases h : (cntE e && !decide (recN es e.1 < cap)) = true
  · rw [if_pos h, if_pos h]; exact .inr ⟨rfl, rfl⟩
  · rw [if_neg h, if_neg h]; exact .inl ⟨rfl, rfl⟩
/-- A log beside a row of events that the caller keeps. -/
def Lw (w : World) (g cap : Nat) (L : List Ev) (q : Nat) (v : Value) (wr : World) : Prop :=
  ∃ (F : Nat → Prop) (Aw : Option Addr) (cw : Nat), LogAt wr F g cap L (fun _ => 0) q ∧ Run w (fun k => k = g) wr F ∧ v = .slice Aw L.length cw ∧ wr.ownsRow w.heap.size 36 5 (.slice Aw L.length cw) L.length (evs L) ∧ ∀ b, (Value.slice Aw L.length cw).ownBlock = some b → ¬ F b

set_option maxRecDepth 100000 in
set_option maxHeartbeats 2000000 in
theorem aback_walk (A : Option Addr) (n c : Nat) (zs : List Int) (cp : Nat) (w : World) (hz : ∀ z ∈ zs, 0 ≤ z ∧ z < 65536) (hn : zs.length = n) (hc : n ≤ c) (hs : Sl w w.heap.size A (nums .u16 zs)) :
    Calls Try.prog 10 #[.int .u8 cp, .slice A n c] w fun e w' => e = .returned (.bool true) ∧ Below w.heap.size w w' := by
  have HO := hid (fun (w' : World) (h : Below w.heap.size w w') => of_any A n c 160 zs w' hz hn hc (hs.go h) (by omega))
  clear hz hn hc hs
  obtain ⟨m, hm⟩ : ∃ m : Nat, m = cp % 12 := ⟨_, rfl⟩
  have hm1 : (cp : Int).tmod 12 = (m : Int) := by rw [hm]; rfl
  have hm6 : m < 12 := by omega
  clear hm
  have HN := hid (new_ok m w (by omega))
  go_enter Try.func10, Try.ntmps10
  go_wp2_with fail
  refine HN.out.mono ?_
  rintro e w1 ⟨g, hg, rfl, hL, hb⟩
  have HL := hid hL
  have HB := hid hb
  have HG := hid hg
  clear hL hb hg HN
  have HO1 := hid (HO.out w1 HB.out)
  go_wp2_with fail
  refine HO1.out.mono ?_
  rintro e w2 ⟨gt, N, rfl, hN, ht2, hb2⟩
  have HT2 := hid ht2
  have HB12 := hid hb2
  have HEV := hid (events_any _ _ gt N 0 24 w2 ht2 (by omega) (by omega))
  clear hb2 ht2 HO1
  go_wp2_with fail
  refine HEV.out.mono ?_
  rintro e w3 ⟨es, A3, c3, rfl, hes, he3, ho3, hg3⟩
  have HB13 := hid (made_below HB12.out HB12.out.size hg3 (Nat.le_refl _) HT2.out)
  have HL3 := hid (HL.out.below HB13.out)
  have HB3 := hid (below_go HB.out HB13.out)
  have HE3 := hid he3
  have HO3 := hid ho3
  have hg1 : g < w1.heap.size := by obtain ⟨_, _, _, _, _, _, _, hX, _⟩ := HL.out.open; exact hX.fs g hX.f0
  have HRG := hid (show (Value.slice A3 es.length c3).ownBlock ≠ some g from fun e => by have := (HO3.out.lt g e).1; have := HB12.out.size; omega)
  obtain ⟨ne, hne⟩ : ∃ ne, ne = es.length := ⟨_, rfl⟩
  have HNE := hid hne
  rw [← hne] at HRG HO3 hes
  clear he3 ho3 hg3 HEV
  go_wp2_with fail
  rw [← hne]
  clear hne
  go_loopw [7, 25] (fun v i wr => ∃ k : Nat, k ≤ ne ∧ i = .int .i64 k ∧ Lw w3 g m (plays m (es.take k)) k v wr) (fun _ i _ => ne - (intOf i).toNat)
  case atStart => exact ⟨0, Nat.zero_le _, rfl, _, none, 0, by simpa [plays] using HL3.out, Run.refl _ _, by simp [plays], by simpa [plays, evs] using World.ownsRow_nil w3 _ _ _, fun b h => (by cases h)⟩
  case round =>
    obtain ⟨k, hk, rfl, F, Aw, cw, hl, hrun, rfl, how, hnf⟩ := hrel
    have HLF := hid hl
    have HRU := hid hrun
    have HOW := hid how
    have HNF := hid hnf
    have HLR := hid (show Lg w3 g m (plays m (es.take k)) (fun _ => 0) k wr from ⟨F, hl, hrun⟩)
    clear hl hrun how hnf
    by_cases hlt : k < ne
    · have hlt' : k < es.length := by rw [← HNE.out]; exact hlt
      obtain ⟨b, rfl, hb1, hb2, hob, q0, q1, q2, q3, q4⟩ := ev_at HO3.out HNE.out.symm hlt'
      have hbg : b ≠ g := fun e => HRG.out (by rw [hob, e])
      have q0 := HLR.out.cell q0 hbg
      have q1 := HLR.out.cell q1 hbg
      have q2 := HLR.out.cell q2 hbg
      have q3 := HLR.out.cell q3 hbg
      have q4 := HLR.out.cell q4 hbg
      have HST := hid (plays_take m es k hlt')
      have HRI := hid (HE3.out _ (List.getElem_mem hlt')).1
      have HPL := hid (show (plays m (es.take k)).length ≤ 24 by have := plays_len m (es.take k); rw [List.length_take] at this; omega)
      obtain ⟨⟨p1, o1, h1, a1, x1⟩, hev⟩ : ∃ v, es[k] = v := ⟨_, rfl⟩
      rw [hev] at q0 q1 q2 q3 q4 HST HRI
      simp only at q0 q1 q2 q3 q4
      clear hev hb1 hb2 hob
      obtain ⟨L, hL⟩ : ∃ L, L = plays m (es.take k) := ⟨_, rfl⟩
      rw [← hL] at HLF HOW HNF HPL HST ⊢
      clear hL HLR
      have hbn := below_new wr #[.int .i64 (p1 : Int), .int .i64 (o1 : Int), .int .u64 (h1 : Int), .int .u64 (a1 : Int), .int .i64 (x1 : Int)] 36
      have HLB := hid (HLF.out.below hbn)
      have HRB := hid (HRU.out.below hbn)
      have HOB := hid (own_below HOW.out hbn)
      have HEA := hid (ev_new p1 o1 h1 a1 x1 wr)
      have HFS := hid (show ¬ F wr.heap.size from fun h => by obtain ⟨_, _, _, _, _, _, _, hX, _⟩ := HLF.out.open; have := hX.fs _ h; omega)
      clear hbn
      have HAP := hid (append_any F g m k L (fun _ => 0) p1 o1 h1 a1 x1 _ HLB.out HRI.out (by omega))
      unfold evv at HAP
      go_wp2_with fail
      refine HAP.out.mono ?_
      rintro e w4 ⟨rfl, F4, hl4, ht4, hf4⟩
      have hR : Run _ F w4 F4 := ⟨ht4, hf4⟩
      have HL4 := hid hl4
      have HR4 := hid (HRB.out.trans hR)
      have HO4 := hid (hR.own HOB.out fun k hk e => HNF.out k e hk)
      have HN4 := hid (show ∀ b, (Value.slice Aw L.length cw).ownBlock = some b → ¬ F4 b from fun b hb h => by
        rcases hf4 b h with h | h
        · exact HNF.out b hb h
        · have := (HOB.out.lt b hb).2; omega)
      have HE4 := hid (hR.ev HEA.out HFS.out)
      clear hl4 ht4 hf4 hR HAP q0 q1 q2 q3 q4
      rcases ap_cases m L (p1, o1, h1, a1, x1) with ⟨hr, he⟩ | ⟨hr, he⟩
      · rw [he] at HL4 HST
        rw [hr]
        have HNEW := hid (show (L ++ [(p1, o1, h1, a1, x1)]).length = L.length + 1 by simp)
        clear hr he
        obtain ⟨⟨f0, f1, f2, f3, f4⟩, hg4⟩ := HE4.out
        have hbn := below_new w4 #[.int .i64 (p1 : Int), .int .i64 (o1 : Int), .int .u64 (h1 : Int), .int .u64 (a1 : Int), .int .i64 (x1 : Int)] 36
        have HO5 := hid (own_below HO4.out hbn)
        have HL5 := hid (HL4.out.below hbn)
        have HR5 := hid (HR4.out.below hbn)
        clear hbn
        have hll := HPL.out
        have hbs := HR5.out.turn.size
        go_wp2_with (at_builtin; refine wp_appE3 rfl (.tmp 33) (.tmp 35) rfl w3.heap.size Aw L.length cw L rfl HO5.out (some ⟨w4.heap.size, 0, none⟩) _ 1 (p1, o1, h1, a1, x1) rfl (Sl.new w4 _ _ _) (L.length + 1) rfl (by omega) hbs ?_)
        intro A6 c6 w6 ho6 hg6 hb6
        have HL6 := hid (HL5.out.kept (fun b hb => hg6.block b (by obtain ⟨_, _, _, _, _, _, _, hX, _⟩ := HL5.out.open; exact hX.fs b hb) (fun e => HN4.out b e.symm hb)) hg6.size)
        have HR6 := hid (show Run w3 (fun k => k = g) w6 F4 from ⟨HR5.out.turn.grown hg6 (fun j hj hlt => absurd (own_lt HO5.out j hj) (by omega)), HR5.out.sub⟩)
        have HN6 := hid (show ∀ b, (Value.slice A6 (L.length + 1) c6).ownBlock = some b → ¬ F4 b from fun b hb h => by
          rcases hb6 with h6 | h6
          · exact HN4.out b (h6.symm.trans hb) h
          · rw [h6] at hb
            injection hb with hb
            obtain ⟨_, _, _, _, _, _, _, hX, _⟩ := HL5.out.open
            have h9 := hX.fs b h
            rw [World.size_alloc] at h9
            omega)
        have HO6 := hid ho6
        clear ho6 hg6 hb6 f0 f1 f2 f3 f4 hg4 hbs hll
        go_wp2_with fail
        go_roundw
        case rel => exact ⟨k + 1, by omega, by go_num, by rw [HST.out]; exact ⟨F4, A6, c6, HL6.out, HR6.out, by rw [HNEW.out], by rw [HNEW.out]; exact HO6.out, by rw [HNEW.out]; exact HN6.out⟩⟩
        case measure => simp [intOf]; omega
      · rw [he] at HL4 HST
        rw [hr]
        clear hr he
        go_wp2_with fail
        go_roundw
        case rel => exact ⟨k + 1, by omega, by go_num, by rw [HST.out]; exact ⟨F4, Aw, cw, HL4.out, HR4.out, rfl, HO4.out, HN4.out⟩⟩
        case measure => simp [intOf]; omega
    · obtain rfl : ne = k := by omega
      have HPL := hid (show (plays m (es.take ne)).length ≤ 24 by have := plays_len m (es.take ne); rw [List.length_take] at this; omega)
      obtain ⟨L, hL⟩ : ∃ L, L = plays m (es.take ne) := ⟨_, rfl⟩
      rw [← hL] at HLF HOW HNF HPL HLR ⊢
      clear hL HLF HRU
      have HBY := hid (lg_bytes w3 wr g m ne L _ HLR.out (by omega))
      have HRT := hid (lg_right HLR.out)
      have HLL := hid (logB_len L fStart HRT.out)
      go_wp2_with fail
      refine HBY.out.mono ?_
      rintro e w4 ⟨A4, c4, rfl, ho4, hb4⟩
      have HL4 := hid (HLR.out.below hb4)
      have HO4 := hid (own_below HOW.out hb4)
      have HDE := hid (adec_any A4 (logB fStart L).length c4 (logB fStart L) w4 rfl (own_le ho4) (Sl.of_own ho4) (by have := HLL.out; have := HPL.out; omega))
      rw [resL_logB L HRT.out] at HDE
      clear ho4 hb4
      go_wp2_with fail
      refine HDE.out.mono ?_
      rintro e w5 ⟨A5, c5, rfl, ho5, hb5⟩
      have HL5 := hid (HL4.out.below hb5)
      have HO5 := hid (own_below HO4.out hb5)
      have HX5 := hid ho5
      clear ho5 hb5
      go_wp2_with fail
      refine (awake_any _).mono ?_
      rintro e w6 ⟨rfl, hb6⟩
      have HL6 := hid (HL5.out.below hb6)
      have HO6 := hid (own_below HO5.out hb6)
      have HX6 := hid (own_below HX5.out hb6)
      clear hb6
      have HSE := hid (samee_any A5 Aw L.length c5 cw _ _ L w6 rfl (Sl.of_own HX6.out) (Sl.of_own HO6.out) (Nat.le_refl _) (Nat.le_refl _) (by have := HPL.out; omega))
      go_wp2_with fail
      refine HSE.out.mono ?_
      rintro e w7 ⟨rfl, hb7⟩
      have HL7 := hid (HL6.out.below hb7)
      clear hb7
      have HLE := hid (lg_len w3 w7 g m ne L _ HL7.out)
      go_wp2_with fail
      refine HLE.out.mono ?_
      rintro e w8 ⟨rfl, rfl⟩
      go_wp2_with fail
      go_ret
      exact ⟨by simp, HB3.out.trans (HL7.out.frame (HB3.out.size) (by have := HG.out; omega))⟩
end Go.Proofs.Ytmhmaodnkifcaaa
