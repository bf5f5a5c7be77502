/-
  AuditGap walked.
-/
import Derived.Test.YtmhmaodnkifcaaaLawA2
import Derived.Test.YtmhmaodnkifcaaaRefL
namespace Go.Proofs.Ytmhmaodnkifcaaa
open Go.RowKit
set_option linter.unusedSimpArgs false
set_option linter.unusedVariables false

theorem logB_lt1 (es : List Ev) (i : Nat) (hi : i < es.length) : (logB fStart (es.take i)).length < (logB fStart (es.take (i + 1))).length := by
  rw [← List.take_append_getElem hi, logB_snoc, List.length_append]
  simp [recB, leb_length]
theorem decL_len : ∀ (f d : Nat) (l : List UInt8), (decL f d l).1.length ≤ f := by
  intro f
  induction f with
  | zero => intro d l; simp [decL]
  | succ f ih =>
    intro d l
    rw [decL]
    split
    · simp
    · split
      · simp
      · split
        · simp
        · split
          · simp
          · split
            · simp
            · split
              · simp
              · have := ih (chain d (decB l).1) (l.drop ((decB l).2.1 + 8))
                simp only [List.length_cons]
                omega
theorem resL_len (l : List UInt8) : (resL l).1.length ≤ l.length := by
  have := decL_len l.length fStart l
  unfold resL onto
  split
  · simpa using this
  · simp
theorem info_sl : (Try.prog.info? 38).map (fun i => (i.zero, i.size, i.bytes)) = some (some (.slice none 0 0), 1, 24) := by kernel_rfl
/-- What a round keeps: the log, the parts so far. -/
def Gp (w3 : World) (g : Nat) (es : List Ev) (k : Nat) (v : Value) (wr : World) : Prop :=
  ∃ (F : Nat → Prop) (Ap : Option Addr) (cp : Nat) (vs : List Value), LogAt wr F g 100 (es.take k) (fun _ => 0) k ∧ Run w3 (fun j => j = g) wr F ∧ v = .slice Ap k cp ∧ wr.ownsRow w3.heap.size 38 1 (.slice Ap k cp) k vs ∧
    (∀ b, (Value.slice Ap k cp).ownBlock = some b → ¬ F b) ∧
    ∀ i, i < k → ∃ b p m c l, vs[i]? = some (.slice (some ⟨b, p, none⟩) (m - p) (c - p)) ∧ p < m ∧ m ≤ 1000 ∧ wr.ownsRow 0 5 1 (.slice (some ⟨b, 0, none⟩) m c) m (bys l) ∧ ¬ F b
/-- Parts are slices of bytes. -/
def Parts (w : World) (B : Nat) (vs : List Value) : Prop :=
  ∀ (i : Nat) (v : Value), vs[i]? = some v → ∃ (A : Option Addr) (m c : Nat) (l : List UInt8), v = .slice A m c ∧ l.length = m ∧ m ≤ 1000 ∧ m ≤ c ∧ Sl w B A (bys l)
theorem Gp.parts {w3 wr : World} {g k : Nat} {es : List Ev} {v : Value} (h : Gp w3 g es k v wr) : ∃ Ap cp vs, v = .slice Ap k cp ∧ vs.length = k ∧ wr.ownsRow w3.heap.size 38 1 (.slice Ap k cp) k vs ∧ Parts wr wr.heap.size vs := by
  obtain ⟨F, Ap, cp, vs, _, _, hv, ho, _, hp⟩ := h
  have hl : vs.length = k := by simpa using ho.1
  refine ⟨Ap, cp, vs, hv, hl, ho, fun i v hi => ?_⟩
  have hik : i < k := by rw [← hl]; exact (List.getElem?_eq_some_iff.1 hi).1
  obtain ⟨b, p, m, c, l, h1, h2, h3, h4, h5⟩ := hp i hik
  rw [h1] at hi
  injection hi with hi
  subst hi
  have hll : l.length = m := by simpa using h4.1
  have hmc := own_le h4
  have hs := (Sl.of_own h4).cut (k := p) (c := c) (by simpa [hll] using hmc) 1 rfl
  rw [if_neg (by omega), ← bys_drop] at hs
  simp only [Option.map_some, Addr.add_lit, Nat.zero_add, Nat.mul_one] at hs
  exact ⟨_, _, _, l.drop p, rfl, by rw [List.length_drop, hll], by omega, by omega, hs⟩
theorem Parts.below {w w' : World} {vs : List Value} (h : Parts w w.heap.size vs) (hb : Below w.heap.size w w') : Parts w' w'.heap.size vs := fun i v hi => by
  obtain ⟨A, m, c, l, h1, h2, h3, h4, h5⟩ := h i v hi
  exact ⟨A, m, c, l, h1, h2, h3, h4, h5.go hb⟩
theorem Gp.next {w4 w8 w9 : World} {F : Nat → Prop} {g k c9 cp g7 pa pb c7 : Nat} {es : List Ev} {Ap A9 : Option Addr} {vs : List Value} {l : List UInt8} (hl : LogAt w8 F g 100 (es.take (k + 1)) (fun _ => 0) (k + 1)) (hr : Run w4 (fun j => j = g) w8 F) (hrow : w8.ownsRow w4.heap.size 38 1 (.slice Ap k cp) k vs)
    (hnf : ∀ b, (Value.slice Ap k cp).ownBlock = some b → ¬ F b)
    (hps : ∀ i, i < k → ∃ b p m c l, vs[i]? = some (.slice (some ⟨b, p, none⟩) (m - p) (c - p)) ∧ p < m ∧ m ≤ 1000 ∧ w8.ownsRow 0 5 1 (.slice (some ⟨b, 0, none⟩) m c) m (bys l) ∧ ¬ F b)
    (hnew : w8.ownsRow 0 5 1 (.slice (some ⟨g7, 0, none⟩) pb c7) pb (bys l)) (hnn : ¬ F g7) (hp : pa < pb) (hp2 : pb ≤ 1000)
    (ho9 : w9.ownsRow w4.heap.size 38 1 (.slice A9 (k + 1) c9) (k + 1) (vs ++ [.slice (some ⟨g7, pa, none⟩) (pb - pa) (c7 - pa)])) (hg9 : w8.grownBy w9 (Value.slice Ap k cp).ownBlock)
    (hb9 : (Value.slice A9 (k + 1) c9).ownBlock = (Value.slice Ap k cp).ownBlock ∨ (Value.slice A9 (k + 1) c9).ownBlock = some w8.heap.size) : Gp w4 g es (k + 1) (.slice A9 (k + 1) c9) w9 := by
  have hfs : ∀ j, F j → j < w8.heap.size := by
    obtain ⟨_, _, _, _, _, _, _, hX, _⟩ := hl.open
    exact hX.fs
  have keep : ∀ {b m c : Nat} {l : List UInt8}, w8.ownsRow 0 5 1 (.slice (some ⟨b, 0, none⟩) m c) m (bys l) → w9.ownsRow 0 5 1 (.slice (some ⟨b, 0, none⟩) m c) m (bys l) := fun h =>
    own_kept h fun b hb => hg9.block b (h.lt b hb).2 (fun e => own_apart_t hrow h (by decide) b e.symm hb)
  have hvl : vs.length = k := by simpa using hrow.1
  refine ⟨F, A9, c9, _, hl.kept (fun b hb => hg9.block b (hfs b hb) (fun e => hnf b e.symm hb)) hg9.size, ⟨hr.turn.grown hg9 (fun j hj hlt => absurd (own_lt hrow j hj) (by omega)), hr.sub⟩, rfl, ho9, fun b hb h => ?_, fun i hi => ?_⟩
  · rcases hb9 with h9 | h9
    · exact hnf b (h9.symm.trans hb) h
    · rw [h9] at hb
      injection hb with hb
      have := hfs b h
      omega
  · by_cases hik : i < k
    · obtain ⟨b, p, m, c, l, h1, h2, h3, h4, h5⟩ := hps i hik
      exact ⟨b, p, m, c, l, by rw [List.getElem?_append_left (by omega)]; exact h1, h2, h3, keep h4, h5⟩
    · obtain rfl : i = k := by omega
      exact ⟨g7, pa, pb, c7, l, by rw [List.getElem?_append_right (by omega), hvl]; simp, hp, hp2, keep hnew, hnn⟩

set_option maxRecDepth 100000 in
set_option maxHeartbeats 4000000 in
theorem gap_walk (A : Option Addr) (n c : Nat) (zs : List Int) (un ui : Nat) (w : World) (hz : ∀ z ∈ zs, 0 ≤ z ∧ z < 65536) (hn : zs.length = n) (hc : n ≤ c) (hs : Sl w w.heap.size A (nums .u16 zs)) (hui : ui < 256) :
    Calls Try.prog 4 #[.slice A n c, .int .u8 un, .int .u8 ui] w fun e w' => e = .returned (.bool true) ∧ Below w.heap.size w w' := by
  have HO := hid (of_any A n c 100 zs w hz hn hc hs (by omega))
  clear hz hn hc hs
  obtain ⟨m, hm⟩ : ∃ m : Nat, m = un % 6 := ⟨_, rfl⟩
  have hm1 : (un : Int).tmod 6 = (m : Int) := by rw [hm]; rfl
  have hm6 : m < 6 := by omega
  obtain ⟨m1, hm2⟩ : ∃ m1 : Nat, m1 = m + 2 := ⟨_, rfl⟩
  have hm3 : (2 : Int) + (m : Int) = (m1 : Int) := by omega
  have hm4 : m1 ≤ 7 := by omega
  clear hm hm2
  go_enter Try.func4, Try.ntmps4
  go_wp2_with fail
  refine HO.out.mono ?_
  rintro e w2 ⟨gt, N, rfl, hN, ht2, hb2⟩
  have HT2 := hid ht2
  have HB2 := hid hb2
  have HEV := hid (events_any _ _ gt N 0 m1 w2 ht2 (by omega) (by omega))
  clear hb2 ht2 HO
  go_wp2_with fail
  refine HEV.out.mono ?_
  rintro e w3 ⟨es, A3, c3, rfl, hes, he3, ho3, hg3⟩
  have HB3 := hid (made_below HB2.out HB2.out.size hg3 (Nat.le_refl _) HT2.out)
  have HE3 := hid he3
  have HO3 := hid ho3
  have HPA := hid (fun k => plays_all 100 (es.take k) (by rw [List.length_take]; omega))
  obtain ⟨ne, hne⟩ : ∃ ne, ne = es.length := ⟨_, rfl⟩
  have HNE := hid hne
  rw [← hne] at HO3 hes
  clear he3 ho3 hg3 HEV HT2
  rw [← hne]
  clear hne hm1 hm3
  by_cases h2 : ne < 2
  · go_wp2_with fail
    refine (awake_any _).mono ?_
    rintro e w4 ⟨rfl, hb4⟩
    have HB4 := hid (below_go HB3.out hb4)
    go_wp2_with fail
    go_ret
    exact ⟨rfl, HB4.out⟩
  · obtain ⟨kk, hkk⟩ : ∃ kk, kk = ui % (ne - 1) := ⟨_, rfl⟩
    have hmod : (ui : Int).tmod ((ne : Int) - 1) = (kk : Int) := by rw [hkk, show ((ne : Int) - 1) = ((ne - 1 : Nat) : Int) by omega]; exact (Int.ofNat_tmod ui (ne - 1)).symm
    have hkb : kk < ne := by have := Nat.mod_lt ui (show 0 < ne - 1 by omega); omega
    clear hkk
    have hnz : ¬ (ne : Int) - 1 = 0 := by omega
    have HN := hid (new_ok 100 w3 (by omega))
    go_wp2_with fail
    refine HN.out.mono ?_
    rintro e w4 ⟨g, hg, rfl, hL, hb⟩
    have HL := hid hL
    have HB4 := hid hb
    have HG := hid hg
    have HO4 := hid (own_below HO3.out hb)
    have HBX := hid (below_go HB3.out hb)
    have hgm : g < w4.heap.size := by obtain ⟨_, _, _, _, _, _, _, hX, _⟩ := hL.open; exact hX.fs g hX.f0
    have HRG := hid (show (Value.slice A3 ne c3).ownBlock ≠ some g from fun e => by have := (HO3.out.lt g e).2; have := HG.out; omega)
    clear hL hb hg HN hmod hnz
    have HC0 := hid (show Gp w4 g es 0 (.slice none 0 0) w4 from ⟨_, none, 0, [], by simpa using HL.out, Run.refl _ _, rfl, World.ownsRow_nil _ _ _ _, fun b h => (by cases h), fun i hi => (by omega)⟩)
    go_wp2_with fail
    go_loopw [11, 45] (fun v i wr => ∃ k : Nat, k ≤ ne ∧ i = .int .i64 k ∧ Gp w4 g es k v wr) (fun _ i _ => ne - (intOf i).toNat)
    case atStart => exact ⟨0, Nat.zero_le _, rfl, HC0.out⟩
    case round =>
      obtain ⟨k, hk, rfl, hgp⟩ := hrel
      have HGP := hid hgp
      clear hgp
      by_cases hlt : k < ne
      · have hlt' : k < es.length := by rw [← HNE.out]; exact hlt
        obtain ⟨F, Ap, cp, vs, hlog, hrun, rfl, hrow, hnf, hps⟩ := HGP.out
        have HLOG := hid hlog
        have HRUN := hid hrun
        have HROW := hid hrow
        have HNF := hid hnf
        have HPS := hid hps
        have HLG := hid (show Lg w4 g 100 (es.take k) (fun _ => 0) k wr from ⟨F, hlog, hrun⟩)
        have HFLT := hid (show ∀ j, F j → j < wr.heap.size by obtain ⟨_, _, _, _, _, _, _, hX, _⟩ := hlog.open; exact hX.fs)
        clear hlog hrun hrow hnf hps HGP
        obtain ⟨b, rfl, hb1, hb2, hob, q0, q1, q2, q3, q4⟩ := ev_at HO4.out HNE.out.symm hlt'
        have hbg : b ≠ g := fun e => HRG.out (by rw [hob, e])
        have q0 := HLG.out.cell q0 hbg
        have q1 := HLG.out.cell q1 hbg
        have q2 := HLG.out.cell q2 hbg
        have q3 := HLG.out.cell q3 hbg
        have q4 := HLG.out.cell q4 hbg
        have HST := hid (plays_take 100 es k hlt')
        rw [HPA.out, HPA.out] at HST
        have HRI := hid (HE3.out _ (List.getElem_mem hlt')).1
        have HPL := hid (logB_lt1 es k hlt')
        have HLL := hid (show (logB fStart (es.take (k + 1))).length ≤ 490 by
          have := logB_len (es.take (k + 1)) fStart (fun e he => HE3.out.right e (List.mem_of_mem_take he))
          rw [List.length_take] at this
          omega)
        obtain ⟨⟨p1, o1, h1, a1, x1⟩, hev⟩ : ∃ v, es[k] = v := ⟨_, rfl⟩
        rw [hev] at q0 q1 q2 q3 q4 HST HRI
        simp only at q0 q1 q2 q3 q4
        clear hev hb1 hb2 hob
        have hbn := below_new wr #[.int .i64 (p1 : Int), .int .i64 (o1 : Int), .int .u64 (h1 : Int), .int .u64 (a1 : Int), .int .i64 (x1 : Int)] 36
        have HBN := hid hbn
        have HLB := hid (HLOG.out.below hbn)
        have HEA := hid (ev_new p1 o1 h1 a1 x1 wr)
        have HBY := hid (bytes_of F g 100 k _ _ _ _ HLB.out (by omega))
        obtain ⟨pa, hpa⟩ : ∃ pa, pa = (logB fStart (es.take k)).length := ⟨_, rfl⟩
        obtain ⟨pb, hpb⟩ : ∃ pb, pb = (logB fStart (es.take (k + 1))).length := ⟨_, rfl⟩
        rw [← hpa] at HBY HPL
        rw [← hpb] at HPL HLL
        have hpab := HPL.out
        have hpb490 := HLL.out
        have HPB := hid hpb
        clear hpa hpb hbn
        go_wp2_with fail
        clear q0 q1 q2 q3 q4
        refine HBY.out.mono ?_
        rintro e w5 ⟨A5, c5, rfl, ho5, hb5⟩
        have HB5 := hid (below_go HBN.out hb5)
        have HE5 := hid (ev_keep HEA.out hb5)
        have HL5 := hid (HLB.out.below hb5)
        clear ho5 hb5 HBY
        have HAP := hid (append_any F g 100 k _ _ p1 o1 h1 a1 x1 _ HL5.out HRI.out (by omega))
        rw [apR_room (by rw [List.length_take]; omega), ← HST.out] at HAP
        unfold evv at HAP
        obtain ⟨⟨f0, f1, f2, f3, f4⟩, hg5⟩ := HE5.out
        go_wp2_with fail
        clear f0 f1 f2 f3 f4 hg5
        refine HAP.out.mono ?_
        rintro e w6 ⟨rfl, F6, hl6, ht6, hf6⟩
        have HL6 := hid hl6
        have HR56 := hid (show Run wr F w6 F6 from (Run.of_below (F := F) HB5.out).trans ⟨ht6, hf6⟩)
        clear hl6 ht6 hf6 HAP
        have HROW6 := hid (HR56.out.own HROW.out fun j hj e => HNF.out j e hj)
        have HNF6 := hid (show ∀ b, (Value.slice Ap k cp).ownBlock = some b → ¬ F6 b from fun b hb h => by
          rcases HR56.out.sub b h with h | h
          · exact HNF.out b hb h
          · have := (HROW.out.lt b hb).2; omega)
        have HPS6 := hid (show ∀ i, i < k → ∃ b p m c l, vs[i]? = some (.slice (some ⟨b, p, none⟩) (m - p) (c - p)) ∧ p < m ∧ m ≤ 1000 ∧ w6.ownsRow 0 5 1 (.slice (some ⟨b, 0, none⟩) m c) m (bys l) ∧ ¬ F6 b from fun i hi => by
          obtain ⟨b, p, m, c, l, h1, h2, h3, h4, h5⟩ := HPS.out i hi
          refine ⟨b, p, m, c, l, h1, h2, h3, HR56.out.own h4 (fun j hj e => by injection e with e; subst e; exact h5 hj), fun h => ?_⟩
          rcases HR56.out.sub b h with h | h
          · exact h5 h
          · have := (h4.lt b rfl).2; omega)
        have HBY := hid (bytes_of F6 g 100 (k + 1) _ _ _ w6 HL6.out (by omega))
        rw [← HPB.out] at HBY
        go_wp2_with fail
        refine HBY.out.mono ?_
        rintro e w7 ⟨A7, c7, rfl, ho7, hb7⟩
        obtain ⟨g7, hA7, hg7a, hg7b⟩ := own_at ho7 (by omega)
        subst hA7
        have hcp : ¬ c7 = pa := by have := own_le ho7; omega
        have hpc : pb ≤ c7 := own_le ho7
        have HO7 := hid (own_base (base' := 0) ho7 (Nat.zero_le _))
        have HB7 := hid hb7
        have HNF7 := hid (show ¬ F6 g7 from fun h => by
          obtain ⟨_, _, _, _, _, _, _, hX, _⟩ := HL6.out.open
          have := hX.fs g7 h; omega)
        clear ho7 hb7 hg7a hg7b HBY
        have hpa1 : pa ≤ pb := by omega
        have hbn7 := below_new w7 #[.slice (some ⟨g7, pa, none⟩) (pb - pa) (c7 - pa)] 38
        have HB8 := hid (below_go HB7.out hbn7)
        have HR8 := hid (own_below HROW6.out HB8.out)
        have hnlt : decide (pb < pa) = false := by simp; omega
        have HL8 := hid (HL6.out.below HB8.out)
        have HRU8 := hid ((HRUN.out.trans HR56.out).below HB8.out)
        have HPS8 := hid (show ∀ i, i < k → ∃ b p m c l, vs[i]? = some (.slice (some ⟨b, p, none⟩) (m - p) (c - p)) ∧ p < m ∧ m ≤ 1000 ∧ (w7.alloc (.cells #[.slice (some ⟨g7, pa, none⟩) (pb - pa) (c7 - pa)] 38)).ownsRow 0 5 1 (.slice (some ⟨b, 0, none⟩) m c) m (bys l) ∧ ¬ F6 b from fun i hi => by
          obtain ⟨b, p, m, c, l, h1, h2, h3, h4, h5⟩ := HPS6.out i hi
          exact ⟨b, p, m, c, l, h1, h2, h3, own_below h4 HB8.out, h5⟩)
        have HO8 := hid (own_below HO7.out hbn7)
        have hsz : w4.heap.size ≤ (w7.alloc (.cells #[.slice (some ⟨g7, pa, none⟩) (pb - pa) (c7 - pa)] 38)).heap.size := HRU8.out.turn.size
        clear hbn7
        go_wp2_with (at_builtin; refine wp_app1 Try.underlying46 info_sl (by rfl) (by decide) (by rfl) (.tmp 62) (.tmp 66) rfl w4.heap.size Ap k cp vs rfl HR8.out (some ⟨w7.heap.size, 0, none⟩) _ 1 1 [.slice (some ⟨g7, pa, none⟩) (pb - pa) (c7 - pa)] rfl rfl (Sl.new w7 _ _ _) (by simp [Value.oneCell']) (k + 1) rfl (by omega) hsz ?_)
        intro A9 c9 w9 ho9 hg9 hb9
        have HG9 := hid (Gp.next HL8.out HRU8.out HR8.out HNF6.out HPS8.out HO8.out HNF7.out hpab (by omega) ho9 hg9 (by rw [World.size_alloc]; exact hb9))
        clear ho9 hg9 hb9 hsz hnlt hpa1 hpc hcp hpab hpb490
        go_wp2_with fail
        go_roundw
        case rel => exact ⟨k + 1, by omega, by go_num, HG9.out⟩
        case measure => simp [intOf]; omega
      · obtain rfl : ne = k := by omega
        have HBW := hid (show Below w.heap.size w wr by
          obtain ⟨F, Ap, cp, vs, hlog, hrun, _⟩ := HGP.out
          exact HBX.out.trans (hrun.turn.below HBX.out.size (fun j hj e => by have := HG.out; have := HB3.out.size; omega)))
        obtain ⟨Ap, cp, vs, rfl, hvl, hrow, hparts⟩ := HGP.out.parts
        have HVL := hid hvl
        have HROW := hid hrow
        have HPT := hid hparts
        clear hvl hrow hparts HGP HC0
        obtain ⟨v0, hv0⟩ : ∃ v0, v0 = wr := ⟨_, rfl⟩
        rw [← hv0] at HBW HROW HPT ⊢
        clear hv0
        go_wp2_with fail
        go_loopw [16, 71] (fun v i wr => ∃ (k : Nat) (Ao : Option Addr) (no co : Nat) (l : List UInt8), k ≤ ne ∧ i = .int .i64 k ∧ v = .slice Ao no co ∧ no ≤ k * 1000 ∧ wr.ownsRow v0.heap.size 5 1 (.slice Ao no co) no (bys l) ∧ Below v0.heap.size v0 wr) (fun _ i _ => ne - (intOf i).toNat)
        case atStart => exact ⟨0, none, 0, 0, [], Nat.zero_le _, rfl, rfl, Nat.zero_le _, World.ownsRow_nil _ _ _ _, Below.refl _ _⟩
        case round =>
          obtain ⟨k, Ao, no, co, l, hk, rfl, rfl, hno, how, hb⟩ := hrel
          have HOW := hid how
          have HB := hid hb
          clear how hb
          by_cases hlt : k < ne
          · by_cases hkk : k = kk
            · have hkki : ((k : Int) == (kk : Int)) = true := by simp [hkk]
              clear hkk
              go_wp2_with fail
              go_roundw
              case rel => exact ⟨k + 1, Ao, no, co, l, by omega, by go_num, rfl, by omega, HOW.out, HB.out⟩
              case measure => simp [intOf]; omega
            · have hkki : ((k : Int) == (kk : Int)) = false := by simp; omega
              have hkni : ¬ (k : Int) = (kk : Int) := by omega
              obtain ⟨pv, hpv⟩ : ∃ pv, vs[k]? = some pv := ⟨_, List.getElem?_eq_getElem (by rw [HVL.out]; exact hlt)⟩
              obtain ⟨A2, m2, c2, l2, rfl, hl2, hm2, hmc2, hs2⟩ := HPT.out k pv hpv
              have hrw := own_below HROW.out HB.out
              obtain ⟨gp, hAp, _, _⟩ := own_at hrw (by omega)
              subst hAp
              have hcell := hrw.cellAt (g := gp) k (by omega)
              rw [hpv] at hcell
              have HS2 := hid (hs2.below HB.out)
              have HL2 := hid hl2
              have hsz := HB.out.size
              clear hkk hpv hrw hs2 hl2
              go_wp2_with (at_builtin; refine wp_app83 (by rfl) (.tmp 77) (.tmp 81) rfl v0.heap.size Ao no co l rfl HOW.out A2 _ m2 c2 l2 rfl HL2.out HS2.out (no + m2) rfl (by omega) hsz ?_)
              intro A6 c6 w6 ho6 hg6 hb6
              have HO6 := hid ho6
              have HB6 := hid (below_app HB.out HOW.out (Nat.le_refl _) hg6)
              clear ho6 hg6 hb6 hcell hsz
              go_wp2_with fail
              go_roundw
              case rel => exact ⟨k + 1, A6, no + m2, c6, _, by omega, by go_num, rfl, by omega, HO6.out, HB6.out⟩
              case measure => simp [intOf]; omega
          · obtain rfl : ne = k := by omega
            have hll : l.length = no := by simpa using HOW.out.1
            have HDE := hid (adec_any Ao no co l wr hll (own_le HOW.out) (Sl.of_own HOW.out) (by omega))
            have HRD := hid (fun (W : World) (hW : Below wr.heap.size wr W) => rdecl_any Ao no co l W hll (own_le HOW.out) ((Sl.of_own HOW.out).go hW) (by omega))
            have HSM := hid (show (resL l).1.length ≤ 1000000 by have := resL_len l; omega)
            obtain ⟨⟨xs, er⟩, hres⟩ : ∃ r, r = resL l := ⟨_, rfl⟩
            rw [← hres] at HDE HRD HSM
            have hxs := HSM.out
            clear hll hres
            go_wp2_with fail
            refine HDE.out.mono ?_
            rintro e w5 ⟨A5, c5, rfl, ho5, hb5⟩
            have HX5 := hid ho5
            have HB5 := hid hb5
            clear ho5 hb5
            go_wp2_with fail
            refine (HRD.out _ HB5.out).mono ?_
            rintro e w6 ⟨A6, c6, rfl, ho6, hb6⟩
            have HX6 := hid (own_below HX5.out hb6)
            have HY6 := hid ho6
            have HB6 := hid (below_go HB5.out hb6)
            clear ho6 hb6
            go_wp2_with fail
            refine (awake_any _).mono ?_
            rintro e w7 ⟨rfl, hb7⟩
            have HX7 := hid (own_below HX6.out hb7)
            have HY7 := hid (own_below HY6.out hb7)
            have HB7 := hid (below_go HB6.out hb7)
            clear hb7
            have HSE := hid (samee_any A5 A6 xs.length c5 c6 _ _ xs w7 rfl (Sl.of_own HX7.out) (Sl.of_own HY7.out) (Nat.le_refl _) (Nat.le_refl _) hxs)
            go_wp2_with fail
            refine HSE.out.mono ?_
            rintro e w8 ⟨rfl, hb8⟩
            have HB8 := hid (below_go HB7.out hb8)
            clear hb8
            go_wp2_with fail
            go_ret
            exact ⟨rfl, below_go HBW.out (below_go HB.out HB8.out)⟩
end Go.Proofs.Ytmhmaodnkifcaaa
