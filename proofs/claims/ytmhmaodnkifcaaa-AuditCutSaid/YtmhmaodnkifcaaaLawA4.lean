/-
  AuditCut walked.
-/
import Derived.Test.YtmhmaodnkifcaaaLawA2
import Derived.Maps.OwnSet
namespace Go.Proofs.Ytmhmaodnkifcaaa
open Go.RowKit
set_option linter.unusedSimpArgs false
set_option linter.unusedVariables false

theorem decL_fuel : ∀ (f f' d : Nat) (l : List UInt8), l.length ≤ f → l.length ≤ f' → decL f d l = decL f' d l := by
  intro f
  induction f with
  | zero =>
    intro f' d l h _
    have : l = [] := List.eq_nil_of_length_eq_zero (by omega)
    subst this
    rw [decL_nil, decL_nil]
  | succ f ih =>
    intro f' d l h h'
    by_cases h0 : l = []
    · subst h0; rw [decL_nil, decL_nil]
    · have hp : 0 < l.length := List.length_pos_iff.2 h0
      obtain ⟨f', rfl⟩ : ∃ g, f' = g + 1 := ⟨f' - 1, by omega⟩
      rw [decL, decL, ih f' _ _ (by rw [List.length_drop]; omega) (by rw [List.length_drop]; omega)]
theorem logB_take_lt (es : List Ev) (i j : Nat) (hij : i < j) (hj : j ≤ es.length) : (logB fStart (es.take i)).length < (logB fStart (es.take j)).length := by
  have e : es.take j = es.take i ++ (es.take j).drop i := by
    have := (List.take_append_drop i (es.take j)).symm
    rwa [List.take_take, Nat.min_eq_left (by omega)] at this
  rw [e, logB_append, List.length_append]
  have : 0 < ((es.take j).drop i).length := by simp; omega
  have h2 := logB_ge ((es.take j).drop i) (endD fStart (es.take i))
  omega
theorem logB_take_le (es : List Ev) (i : Nat) (hi : i ≤ es.length) : (logB fStart (es.take i)).length ≤ (logB fStart es).length := by
  by_cases h : i = es.length
  · subst h; simp
  · have := logB_take_lt es i es.length (by omega) (Nat.le_refl _)
    simp at this
    omega
/-- The ends of the first k records, by their lengths. -/
def EndsV (D : DataW Unit) (es : List Ev) (k : Nat) : Prop :=
  Maps.IsMap D ∧ (∀ m, m ≤ k → Maps.has D (.int .i64 ((logB fStart (es.take m)).length : Int)) = true ∧ D.atKey (.int .i64 ((logB fStart (es.take m)).length : Int)) (.lit (.int .i64 0)) = .lit (.int .i64 (m : Int))) ∧
    ∀ z : Int, (∀ m, m ≤ k → z ≠ ((logB fStart (es.take m)).length : Int)) → Maps.has D (.int .i64 z) = false
theorem ends_zero (es : List Ev) : EndsV ((DataW.map [] : DataW Unit).put (.int .i64 0) (.lit (.int .i64 0))) es 0 := by
  have hkl : WideAt.IsKeyLit (Lit.int .i64 0) := trivial
  refine ⟨Maps.isMap_empty.put _ _, fun m hm => ?_, fun z hz => ?_⟩
  · obtain rfl : m = 0 := by omega
    simp only [List.take_zero, logB, List.length_nil]
    exact ⟨Maps.has_put_same Maps.isMap_empty hkl _, Maps.atKey_put_same Maps.isMap_empty hkl _ _⟩
  · have h0 := hz 0 (Nat.le_refl _)
    simp only [List.take_zero, logB, List.length_nil] at h0
    rw [Maps.has_put_other (fun h => h0 (by injection h))]
    rfl
theorem ends_step {D : DataW Unit} {es : List Ev} {k : Nat} (h : EndsV D es k) (hk : k < es.length) : EndsV (D.put (.int .i64 ((logB fStart (es.take (k + 1))).length : Int)) (.lit (.int .i64 ((k + 1 : Nat) : Int)))) es (k + 1) := by
  have hkl : WideAt.IsKeyLit (Lit.int .i64 ((logB fStart (es.take (k + 1))).length : Int)) := trivial
  refine ⟨h.1.put _ _, fun m hm => ?_, fun z hz => ?_⟩
  · by_cases hmk : m = k + 1
    · subst hmk
      exact ⟨Maps.has_put_same h.1 hkl _, Maps.atKey_put_same h.1 hkl _ _⟩
    · have hlt := logB_take_lt es m (k + 1) (by omega) (by omega)
      have hne : Lit.int .i64 ((logB fStart (es.take m)).length : Int) ≠ Lit.int .i64 ((logB fStart (es.take (k + 1))).length : Int) := fun e => by injection e with _ e; omega
      rw [Maps.has_put_other hne, Maps.atKey_put_other hne]
      exact h.2.1 m (by omega)
  · have h1 := hz (k + 1) (Nat.le_refl _)
    rw [Maps.has_put_other (fun e => h1 (by injection e))]
    exact h.2.2 z fun m hm => hz m (by omega)
theorem evs_take (es : List Ev) (m : Nat) : evs (es.take m) = (evs es).take (m * 5) := by
  induction es generalizing m with
  | nil => simp [evs]
  | cons e es ih =>
    cases m with
    | zero => simp [evs]
    | succ m =>
      have e1 : evs (e :: es) = evc e ++ evs es := by simp [evs]
      have e2 : evs ((e :: es).take (m + 1)) = evc e ++ evs (es.take m) := by simp [evs]
      have h5 : (evc e).length = 5 := rfl
      rw [e1, e2, ih, List.take_append, List.take_of_length_le (l := evc e) (by omega), h5, show (m + 1) * 5 - 5 = m * 5 by omega]
theorem own_map_kept {w w' : World} {b n : Nat} {D : DataW Unit} {k e : TypeId} (h : w.ownsMap Try.prog k (plainElem Try.prog e) b n D) (hk : w'.heap[b]? = w.heap[b]?) : w'.ownsMap Try.prog k (plainElem Try.prog e) b n D := by
  obtain ⟨es, ck, hh, r⟩ := h
  exact ⟨es, ck, hk.trans hh, r⟩
theorem wpList_insert_own {H : Type} {P : Program} (w : World) {ops : Array Oper} {rest : List Oper} {o : Oper} {a : Act} {Q : Exit → Act → World → Prop}
    (hg : o.guard = none) (m x v : Operand) (t : TypeId) (hop : o.op = Op.insert t m x v)
    (k e : TypeId) (K : Maps.Keyed P k) (ht : P.underlying t = some (.map k e)) (R : Value → Option (DataW H × List MemPlace)) (b n : Nat) (D : DataW H)
    (hm : a.eval m = .map (some b)) (hown : w.ownsMap P k R b n D) (hn : n < maxLen) (key val : Value) (kl : Lit) (hx : a.eval x = key) (hv : a.eval v = val) (hkey : keyOf P k key = some kl)
    (d : DataW H) (ps : List MemPlace) (hval : R val = some (d, ps))
    (hK : ∀ w', w'.ownsMap P k R b (n + 1) (D.put kl d) → w.grownBy w' (some b) → wpList P ops Q rest (a.put o.dst undef) w') :
    wpList P ops Q (o :: rest) a w := by
  refine wpList_plain hg fun K' hK' => ?_
  obtain ⟨w', hrun, r1, r2⟩ := hown.update K ht hn hkey hval
  unfold Oper.wp
  simp [execOp, hop, hm, hx, hv, hrun, Result.andThen]
  exact hK' _ _ (hK w' r1 r2)

theorem resL_cut (es : List Ev) (k : Nat) (h : ∀ e ∈ es, Right e) (hk : k ≤ (logB fStart es).length) :
    (∃ m, m ≤ es.length ∧ k = (logB fStart (es.take m)).length ∧ resL ((logB fStart es).take k) = (es.take m, 0)) ∨ ((∀ m, m ≤ es.length → k ≠ (logB fStart (es.take m)).length) ∧ resL ((logB fStart es).take k) = ([], 2)) := by
  have e : resL ((logB fStart es).take k) = onto [] (decL ((logB fStart es).length + es.length + 1) fStart ((logB fStart es).take k)) := by
    unfold resL
    rw [decL_fuel _ ((logB fStart es).length + es.length + 1) _ _ (Nat.le_refl _) (by rw [List.length_take]; omega)]
  rw [e]
  rcases decL_cut es ((logB fStart es).length + es.length + 1) fStart k (by omega) h hk with ⟨m, h1, h2, h3⟩ | ⟨h1, h2⟩
  · exact .inl ⟨m, h1, h2, by rw [h3]; rfl⟩
  · exact .inr ⟨h1, by rw [h2]; rfl⟩
/-- What a round keeps: the log, the map of the ends. -/
def Cu (w5 : World) (g gm : Nat) (es : List Ev) (k : Nat) (wr : World) : Prop :=
  ∃ (F : Nat → Prop) (D : DataW Unit), LogAt wr F g 100 (es.take k) (fun _ => 0) k ∧ Turn (fun j => j = g ∨ j = gm) w5 wr ∧ (∀ j, F j → j = g ∨ w5.heap.size ≤ j) ∧ wr.ownsMap Try.prog 3 (plainElem Try.prog 3) gm (k + 1) D ∧ EndsV D es k
theorem Cu.own {w5 wr : World} {g gm k base n size : Nat} {es : List Ev} {e : TypeId} {v : Value} {xs : List Value} (h : Cu w5 g gm es k wr) (ho : w5.ownsRow base e size v n xs) (hg : v.ownBlock ≠ some g) (hm : v.ownBlock ≠ some gm) : wr.ownsRow base e size v n xs := by
  obtain ⟨F, D, _, h2, _⟩ := h
  exact own_kept ho fun b hb => h2.block b (ho.lt b hb).2 (by rintro (e | e) <;> subst e <;> contradiction)

set_option maxRecDepth 100000 in
set_option maxHeartbeats 4000000 in
theorem cut_walk (A : Option Addr) (n c : Nat) (zs : List Int) (un ua : Nat) (w : World) (hz : ∀ z ∈ zs, 0 ≤ z ∧ z < 65536) (hn : zs.length = n) (hc : n ≤ c) (hs : Sl w w.heap.size A (nums .u16 zs)) (hua : ua < 65536) :
    Calls Try.prog 3 #[.slice A n c, .int .u8 un, .int .u16 ua] w fun e w' => e = .returned (.bool true) ∧ Below w.heap.size w w' := by
  have HO := hid (of_any A n c 100 zs w hz hn hc hs (by omega))
  clear hz hn hc hs
  obtain ⟨m, hm⟩ : ∃ m : Nat, m = un % 8 := ⟨_, rfl⟩
  have hm1 : (un : Int).tmod 8 = (m : Int) := by rw [hm]; rfl
  have hm6 : m < 8 := by omega
  obtain ⟨m1, hm2⟩ : ∃ m1 : Nat, m1 = m + 1 := ⟨_, rfl⟩
  have hm3 : (1 : Int) + (m : Int) = (m1 : Int) := by omega
  have hm4 : m1 ≤ 8 := by omega
  clear hm hm2
  have hmm := @run_makeMap Try.prog
  have hkey0 := Maps.keyOf_int_mk Try.underlying3 (a := 0) (by decide)
  go_enter Try.func3, Try.ntmps3
  go_wp2_with fail
  refine HO.out.mono ?_
  rintro e w2 ⟨gt, N, rfl, hN, ht2, hb2⟩
  have HT2 := hid ht2
  have HB2 := hid hb2
  have HEV := hid (events_any _ _ gt N 0 m1 w2 ht2 (by omega) (by omega))
  clear hb2 ht2 HO
  go_wp2_with fail
  refine HEV.out.mono ?_
  rintro e w3 ⟨es, A3, c3, rfl, hes, he3, ho3, hg3⟩
  have HB3 := hid (made_below HB2.out HB2.out.size hg3 (Nat.le_refl _) HT2.out)
  have HE3 := hid he3
  have HO3 := hid ho3
  have HPA := hid (fun k => plays_all 100 (es.take k) (by rw [List.length_take]; omega))
  obtain ⟨ne, hne⟩ : ∃ ne, ne = es.length := ⟨_, rfl⟩
  have HNE := hid hne
  rw [← hne] at HO3 hes
  clear he3 ho3 hg3 HEV HT2
  rw [← hne]
  clear hne
  have HN := hid (new_ok 100 w3 (by omega))
  go_wp2_with fail
  refine HN.out.mono ?_
  rintro e w4 ⟨g, hg, rfl, hL, hb⟩
  have HL := hid hL
  have HB4 := hid hb
  have HG := hid hg
  have HO4 := hid (own_below HO3.out hb)
  clear hL hb hg HN
  have HMW := hid (World.ownsMap_made w4 Try.prog 3 (plainElem (H := Unit) Try.prog 3))
  go_wp2_with (refine wpList_insert_own _ rfl _ _ _ 32 rfl 3 3 (Maps.int_keyed Try.underlying3) Try.underlying32 _ w4.heap.size 0 _ rfl HMW.out (by decide) _ _ _ rfl rfl hkey0 _ [] (plainElem_int Try.underlying3 rfl) ?_; intro w5 hown5 hgrow5)
  have hgm : g < w4.heap.size := by obtain ⟨_, _, _, _, _, _, _, hX, _⟩ := HL.out.open; exact hX.fs g hX.f0
  have hal : Below w4.heap.size w4 (w4.alloc (.map #[] 0)) := (Below.refl _ _).alloc (Nat.le_refl _) _
  have HL5 := hid (show LogAt w5 (fun k => k = g) g 100 [] (fun _ => 0) 0 from (HL.out.below hal).kept (fun b hb => hgrow5.block b (by simp; omega) (fun e => by injection e with e; omega)) hgrow5.size)
  have HO5 := hid (show w5.ownsRow w2.heap.size 36 5 (.slice A3 ne c3) ne (evs es) from own_kept (own_below HO4.out hal) fun b hb => hgrow5.block b ((own_below HO4.out hal).lt b hb).2 (fun e => by have := (HO4.out.lt b hb).2; injection e with e; omega))
  have hm5 : w4.heap.size < w5.heap.size := by have := hgrow5.size; simp at this; omega
  have hB5 : Below w4.heap.size w4 w5 := ((Below.refl _ _).alloc (Nat.le_refl _) _).grown hgrow5 (by simp) (fun k hk => by injection hk with hk; omega)
  have HB5 := hid (below_go HB3.out (below_go HB4.out hB5))
  have HRG := hid (show (Value.slice A3 ne c3).ownBlock ≠ some g from fun e => by have := (HO3.out.lt g e).2; have := HG.out; omega)
  have HRM := hid (show (Value.slice A3 ne c3).ownBlock ≠ some w4.heap.size from fun e => by have := (HO4.out.lt _ e).2; omega)
  obtain ⟨gm, hgme⟩ : ∃ gm, gm = w4.heap.size := ⟨_, rfl⟩
  have HGM := hid hgme
  rw [← hgme] at HRM hm5 hgm hown5 ⊢
  have HC0 := hid (show Cu w5 g gm es 0 w5 from ⟨_, _, by simpa using HL5.out, Turn.refl _ _, fun _ h => .inl h, hown5, ends_zero es⟩)
  clear hal hgrow5 hB5 hown5 hgme HMW HL hkey0 hmm hm1 hm3
  go_loopw [34] (fun i wr => ∃ k : Nat, k ≤ ne ∧ i = .int .i64 k ∧ Cu w5 g gm es k wr) (fun i _ => ne - (intOf i).toNat)
  case atStart => exact ⟨0, Nat.zero_le _, rfl, HC0.out⟩
  case round =>
    obtain ⟨k, hk, rfl, hcu⟩ := hrel
    have HCU := hid hcu
    clear hcu
    by_cases hlt : k < ne
    · have hlt' : k < es.length := by rw [← HNE.out]; exact hlt
      obtain ⟨b, rfl, hb1, hb2, hob, q0, q1, q2, q3, q4⟩ := ev_at (HCU.out.own HO5.out HRG.out HRM.out) HNE.out.symm hlt'
      have HST := hid (plays_take 100 es k hlt')
      rw [HPA.out, HPA.out] at HST
      have HRI := hid (HE3.out _ (List.getElem_mem hlt')).1
      obtain ⟨⟨p1, o1, h1, a1, x1⟩, hev⟩ : ∃ v, es[k] = v := ⟨_, rfl⟩
      rw [hev] at q0 q1 q2 q3 q4 HST HRI
      simp only at q0 q1 q2 q3 q4
      clear hev hb1 hb2 hob
      obtain ⟨F, D, hlog, hturn, hfs, hown, hends⟩ := HCU.out
      have hbn := below_new wr #[.int .i64 (p1 : Int), .int .i64 (o1 : Int), .int .u64 (h1 : Int), .int .u64 (a1 : Int), .int .i64 (x1 : Int)] 36
      have HLB := hid (hlog.below hbn)
      have HOWN := hid hown
      have HENDS := hid hends
      have HTURN := hid hturn
      have HFS := hid hfs
      have HAP := hid (append_any F g 100 k _ _ p1 o1 h1 a1 x1 _ HLB.out HRI.out (by omega))
      rw [apR_room (by rw [List.length_take]; omega), ← HST.out] at HAP
      unfold evv at HAP
      clear hlog hturn hfs hown hends HCU
      go_wp2_with fail
      refine HAP.out.mono ?_
      rintro e w6 ⟨rfl, F6, hl6, ht6, hf6⟩
      have HL6 := hid hl6
      have HF6 := hid (show ∀ j, F6 j → j = g ∨ w5.heap.size ≤ j from fun j hj => by
        rcases hf6 j hj with h | h
        · exact HFS.out j h
        · have := HTURN.out.size; rw [World.size_alloc] at h; exact .inr (by omega))
      have hbl : gm < wr.heap.size := HOWN.out.lt
      have hnf : ¬ F gm := fun h => by
        rcases HFS.out gm h with h | h <;> omega
      have HM6 := hid (own_map_kept HOWN.out ((ht6.block gm (by rw [World.size_alloc]; omega) hnf).trans (hbn.block gm hbl)))
      have HT6 := hid (show Turn (fun j => j = g ∨ j = gm) w5 w6 from (HTURN.out.trans (Turn.of (F := F) hbn) (fun j hj h => by
        rcases HFS.out j h with h | h
        · exact .inl h
        · omega)).trans ht6 (fun j hj h => by
        rcases HFS.out j h with h | h
        · exact .inl h
        · omega))
      clear hl6 ht6 hf6 hbn hbl hnf HAP HLB HOWN HTURN HFS q0 q1 q2 q3 q4
      have HBY := hid (bytes_of F6 g 100 (k + 1) _ _ _ w6 HL6.out (by omega))
      have HRT := hid (HE3.out.right)
      have HLL := hid (show (logB fStart (es.take (k + 1))).length ≤ 560 by
        have := logB_len (es.take (k + 1)) fStart (fun e he => HRT.out e (List.mem_of_mem_take he))
        rw [List.length_take] at this
        omega)
      go_wp2_with fail
      refine HBY.out.mono ?_
      rintro e w7 ⟨A7, c7, rfl, ho7, hb7⟩
      have HL7 := hid (HL6.out.below hb7)
      have HM7 := hid (own_map_kept HM6.out (hb7.block gm HM6.out.lt))
      have HT7 := hid (HT6.out.trans (Turn.of (F := fun j => j = g ∨ j = gm) hb7) (fun j _ h => h))
      clear ho7 hb7 HBY HM6 HL6 HT6
      have hkey := Maps.keyOf_int_mk Try.underlying3 (a := ((logB fStart (es.take (k + 1))).length : Int)) (by
        have := HLL.out
        simp [Lit.wf, IntKind.min, IntKind.max, IntKind.signed, IntKind.bits]
        omega)
      have hwv : (Lit.int .i64 ((k : Int) + 1)).wf = true := by
        simp [Lit.wf, IntKind.min, IntKind.max, IntKind.signed, IntKind.bits]
        omega
      obtain ⟨ln, hln⟩ : ∃ ln, ln = (logB fStart (es.take (k + 1))).length := ⟨_, rfl⟩
      rw [← hln] at hkey ⊢
      have HLN := hid hln
      clear hln
      go_wp2_with (at_mapUpdate; refine wpList_mapUpdate_own _ rfl _ _ _ 32 rfl 3 3 (Maps.int_keyed Try.underlying3) Try.underlying32 _ gm (k + 1) _ rfl HM7.out (by unfold maxLen; omega) _ _ _ rfl rfl hkey _ [] (plainElem_int Try.underlying3 hwv) ?_; intro w8 hown8 hgrow8)
      have HC8 := hid (show Cu w5 g gm es (k + 1) w8 by
        refine ⟨F6, _, HL7.out.kept (fun b hb => hgrow8.block b ?_ (fun e => ?_)) hgrow8.size, ?_, HF6.out, hown8, ?_⟩
        · obtain ⟨_, _, _, _, _, _, _, hX, _⟩ := HL7.out.open
          exact hX.fs b hb
        · injection e with e
          subst e
          rcases HF6.out b hb with h | h <;> omega
        · exact HT7.out.grown hgrow8 (fun j e _ => by injection e with e; exact .inr e.symm)
        · have := ends_step HENDS.out hlt'
          rw [← HLN.out] at this
          exact this)
      clear hown8 hgrow8 hkey hwv
      go_wp2_with fail
      go_roundw
      case rel => exact ⟨k + 1, by omega, by go_num, HC8.out⟩
      case measure => simp [intOf]; omega
    · obtain rfl : ne = k := by omega
      obtain ⟨F, D, hlog, hturn, hfs, hown, hends⟩ := HCU.out
      rw [HNE.out, List.take_length, ← HNE.out] at hlog
      have HLG := hid hlog
      have HOW := hid hown
      have HEN := hid hends
      have HTU := hid hturn
      have HOE := hid (HCU.out.own HO5.out HRG.out HRM.out)
      have HBW := hid (HB5.out.trans (hturn.below (HB5.out.size) (fun j hj e => by
        have := HG.out
        have := HGM.out
        have := HB4.out.size
        have := HB3.out.size
        rcases e with e | e <;> omega)))
      have HRT := hid (HE3.out.right)
      have hll := logB_len es fStart HRT.out
      have HBY := hid (bytes_of F g 100 ne es _ _ wr hlog (by omega))
      clear hlog hturn hfs hown hends HCU
      obtain ⟨bs, hbs⟩ : ∃ bs, bs = logB fStart es := ⟨_, rfl⟩
      obtain ⟨bl, hbl⟩ : ∃ bl, bl = bs.length := ⟨_, rfl⟩
      rw [← hbs, ← hbl] at HBY hll
      have hbl7 : bl ≤ 560 := by rw [← HNE.out] at hll; omega
      clear hll
      obtain ⟨kk, hkk⟩ : ∃ kk, kk = ua % (bl + 1) := ⟨_, rfl⟩
      have hmod : (ua : Int).tmod ((bl : Int) + 1) = (kk : Int) := by rw [hkk]; exact (Int.ofNat_tmod ua (bl + 1)).symm
      have hkb : kk ≤ bl := by have := Nat.mod_lt ua (show 0 < bl + 1 by omega); omega
      clear hkk
      have HCASE := hid (resL_cut es kk HRT.out (by rw [← hbs, ← hbl]; exact hkb))
      rw [← hbs] at HCASE
      have HBL := hid hbl
      clear hbs hbl
      have hnz : ¬ (bl : Int) + 1 = 0 := by omega
      have hkey := Maps.keyOf_int_mk Try.underlying3 (a := (kk : Int)) (by
        simp [Lit.wf, IntKind.min, IntKind.max, IntKind.signed, IntKind.bits]
        omega)
      have HKEY := hid hkey
      clear hkey
      go_wp2_with fail
      refine HBY.out.mono ?_
      rintro e w6 ⟨A6, c6, rfl, ho6, hb6⟩
      have hkc : kk ≤ c6 := Nat.le_trans hkb (own_le ho6)
      have HOW6 := hid (own_map_kept HOW.out (hb6.block gm HOW.out.lt))
      have HOE6 := hid (own_below HOE.out hb6)
      have HB6 := hid (below_go HBW.out hb6)
      have HDE := hid (adec_any A6 kk c6 (bs.take kk) w6 (by rw [List.length_take, ← HBL.out]; omega) hkc (by rw [bys_take]; exact (Sl.of_own ho6).take kk) (by omega))
      clear ho6 hb6 HBY
      rcases HCASE.out with ⟨mm, hm1, hm2, hres⟩ | ⟨hno, hres⟩
      · rw [hres] at HDE
        obtain ⟨hh, hat1⟩ := HEN.out.2.1 mm (by rw [HNE.out]; exact hm1)
        rw [← hm2] at hh hat1
        have HCV := hid (show ∀ cv : Int, D.atKey (.int .i64 (kk : Int)) (.lit (.int .i64 0)) = .lit (.int .i64 cv) → cv = (mm : Int) from fun cv h => by
          have h1 := h.symm.trans hat1
          injection h1 with h1
          injection h1 with _ h1)
        have HHH := hid hh
        have hmn : mm ≤ ne := by rw [HNE.out]; exact hm1
        have HML := hid (show (es.take mm).length = mm by rw [List.length_take]; omega)
        clear hm1 hm2 hres hh hat1
        go_wp2_with fail
        refine HDE.out.mono ?_
        rintro e w7 ⟨A7, c7, he7, ho7, hb7⟩
        simp only [HML.out] at he7 ho7
        subst he7
        have HOW7 := hid (own_map_kept HOW6.out (hb7.block gm HOW6.out.lt))
        have HOE7 := hid (own_below HOE6.out hb7)
        have HB7 := hid (below_go HB6.out hb7)
        have HX7 := hid ho7
        clear ho7 hb7 HDE HOW6 HOE6
        have hhas := HHH.out
        go_wp2_with (at_lookup; refine wpList_lookup_own_ok_int _ rfl _ _ 32 rfl 3 3 .i64 (Maps.int_keyed Try.underlying3) Try.underlying32 Try.underlying3 (Try.zeroValue3 _) gm _ _ rfl HOW7.out _ _ rfl HKEY.out ?_; intro cv hatv hwv; obtain rfl := HCV.out cv hatv; clear hatv hwv)
        clear hhas
        refine (awake_any _).mono ?_
        rintro e w8 ⟨rfl, hb8⟩
        have HOE8 := hid (own_below HOE7.out hb8)
        have HX8 := hid (own_below HX7.out hb8)
        have HB8 := hid (below_go HB7.out hb8)
        clear hb8
        have hmc : mm ≤ c3 := Nat.le_trans hmn (own_le HOE8.out)
        have HSE := hid (samee_any A7 A3 mm c7 c3 _ _ (es.take mm) w8 HML.out (Sl.of_own HX8.out) (by rw [evs_take]; exact (Sl.of_own HOE8.out).take (mm * 5)) (Nat.le_refl _) (Nat.le_refl _) (by omega))
        go_wp2_with fail
        refine HSE.out.mono ?_
        rintro e w9 ⟨rfl, hb9⟩
        have HB9 := hid (below_go HB8.out hb9)
        clear hb9
        go_wp2_with fail
        go_ret
        exact ⟨rfl, HB9.out⟩
      · rw [hres] at HDE
        have HHH := hid (HEN.out.2.2 (kk : Int) (fun m hm e => hno m (by rw [← HNE.out]; exact hm) (by exact_mod_cast e)))
        clear hno hres
        go_wp2_with fail
        refine HDE.out.mono ?_
        rintro e w7 ⟨A7, c7, rfl, ho7, hb7⟩
        have HOW7 := hid (own_map_kept HOW6.out (hb7.block gm HOW6.out.lt))
        have HB7 := hid (below_go HB6.out hb7)
        clear ho7 hb7 HDE HOW6 HOE6
        have hhas := HHH.out
        go_wp2_with (at_lookup; refine wpList_lookup_own_ok_int _ rfl _ _ 32 rfl 3 3 .i64 (Maps.int_keyed Try.underlying3) Try.underlying32 Try.underlying3 (Try.zeroValue3 _) gm _ _ rfl HOW7.out _ _ rfl HKEY.out ?_; intro cv hatv hwv; clear hatv hwv)
        clear hhas
        refine (awake_any _).mono ?_
        rintro e w8 ⟨rfl, hb8⟩
        have HB8 := hid (below_go HB7.out hb8)
        clear hb8
        go_wp2_with fail
        go_ret
        exact ⟨rfl, HB8.out⟩
end Go.Proofs.Ytmhmaodnkifcaaa
