/-
  Append of the log.
-/
import Derived.Test.YtmhmaodnkifcaaaLogY
import Derived.Test.YtmhmaodnkifcaaaWireQ
namespace Go.Proofs.Ytmhmaodnkifcaaa
open Go.RowKit
set_option linter.unusedSimpArgs false
set_option linter.unusedVariables false

set_option maxRecDepth 100000 in
theorem counts_any (p o h a x : Int) (w : World) :
    Calls Try.prog 36 #[evv p o h a x] w fun e w' => e = .returned (.bool (decide (o ≠ 32 ∧ o ≠ 33))) ∧ Below w.heap.size w w' := by
  unfold evv
  go_enter Try.func36, Try.ntmps36
  go_wp2
  all_goals (go_ret)
  all_goals exact ⟨congrArg (fun b => Ending.returned (.bool b)) (by by_cases h1 : o = 32 <;> by_cases h2 : o = 33 <;> simp_all), below_new _ _ _⟩
theorem encB_len (r : List UInt8) (h : r.length < 18446744073709551616) : (encB r).length ≤ r.length + 10 := by
  have := enc_len10 r.length h
  simp only [encB, List.length_append]
  omega
theorem logB_len (es : List Ev) : ∀ d, (∀ e ∈ es, Right e) → (logB d es).length ≤ es.length * 70 := by
  induction es with
  | nil => intro d _; simp [logB]
  | cons e es ih =>
    intro d h
    have h1 := encV_short e (h e (by simp))
    have h2 := ih (chain d (encV e)) fun x hx => h x (by simp [hx])
    have h3 := encB_len (encV e) (by omega)
    rw [logB, List.length_append, List.length_cons]
    simp only [recB, List.length_append, leb_length]
    omega
section
variable {W W' : World} {g n0 c3 n : Nat} {A3 : Option Addr} {p o h a x : Nat}
theorem evS_go (hs : W.cell? ⟨g, 1, none⟩ = some (.slice A3 n c3) ∧ W.cell? ⟨n0, 0, none⟩ = some (.int .i64 p) ∧ W.cell? ⟨n0, 1, none⟩ = some (.int .i64 o) ∧ W.cell? ⟨n0, 2, none⟩ = some (.int .u64 h) ∧ W.cell? ⟨n0, 3, none⟩ = some (.int .u64 a) ∧ W.cell? ⟨n0, 4, none⟩ = some (.int .i64 x)) (hb : Below W.heap.size W W') :
    W'.cell? ⟨g, 1, none⟩ = some (.slice A3 n c3) ∧ W'.cell? ⟨n0, 0, none⟩ = some (.int .i64 p) ∧ W'.cell? ⟨n0, 1, none⟩ = some (.int .i64 o) ∧ W'.cell? ⟨n0, 2, none⟩ = some (.int .u64 h) ∧ W'.cell? ⟨n0, 3, none⟩ = some (.int .u64 a) ∧ W'.cell? ⟨n0, 4, none⟩ = some (.int .i64 x) :=
  ⟨cell_go hs.1 hb, cell_go hs.2.1 hb, cell_go hs.2.2.1 hb, cell_go hs.2.2.2.1 hb, cell_go hs.2.2.2.2.1 hb, cell_go hs.2.2.2.2.2 hb⟩
theorem evS_grown {row : Option Nat} (hs : W.cell? ⟨g, 1, none⟩ = some (.slice A3 n c3) ∧ W.cell? ⟨n0, 0, none⟩ = some (.int .i64 p) ∧ W.cell? ⟨n0, 1, none⟩ = some (.int .i64 o) ∧ W.cell? ⟨n0, 2, none⟩ = some (.int .u64 h) ∧ W.cell? ⟨n0, 3, none⟩ = some (.int .u64 a) ∧ W.cell? ⟨n0, 4, none⟩ = some (.int .i64 x))
    (h1 : W'.cell? ⟨g, 1, none⟩ = some (.slice A3 n c3)) (hg : W.grownBy W' row) (hne : row ≠ some n0) :
    W'.cell? ⟨g, 1, none⟩ = some (.slice A3 n c3) ∧ W'.cell? ⟨n0, 0, none⟩ = some (.int .i64 p) ∧ W'.cell? ⟨n0, 1, none⟩ = some (.int .i64 o) ∧ W'.cell? ⟨n0, 2, none⟩ = some (.int .u64 h) ∧ W'.cell? ⟨n0, 3, none⟩ = some (.int .u64 a) ∧ W'.cell? ⟨n0, 4, none⟩ = some (.int .i64 x) :=
  ⟨h1, grown_cell hs.2.1 hg hne, grown_cell hs.2.2.1 hg hne, grown_cell hs.2.2.2.1 hg hne, grown_cell hs.2.2.2.2.1 hg hne, grown_cell hs.2.2.2.2.2 hg hne⟩
end

set_option maxRecDepth 100000 in
set_option maxHeartbeats 2000000 in
theorem append_ok (F : Nat → Prop) (g cap q : Nat) (es : List Ev) (mis : Int → Nat) (p o h a x : Nat) (w : World) (hl : LogAt w F g cap es mis q) (hr : Right (p, o, h, a, x)) (hq : q < 50000) (hc : cntE (p, o, h, a, x) = true) (hroom : recN es p < cap) :
    Calls Try.prog 14 #[.pointer (some ⟨g, 0, none⟩), evv p o h a x] w fun e w' => e = .returned (.int .i64 0) ∧ Step w F g cap (es ++ [(p, o, h, a, x)]) (recN (es ++ [(p, o, h, a, x)])) mis (q + 1) w' := by
  have HENC := hid (encode_yes p o h a x (w.alloc (.cells #[.int .i64 (p : Int), .int .i64 (o : Int), .int .u64 (h : Int), .int .u64 (a : Int), .int .i64 (x : Int)] 36)) hr.1 hr.2.1 hr.2.2)
  have HX := hid (ev_new p o h a x w)
  have HB := hid (below_new w #[.int .i64 (p : Int), .int .i64 (o : Int), .int .u64 (h : Int), .int .u64 (a : Int), .int .i64 (x : Int)] 36)
  have HL := hid hl
  clear hl
  unfold evv at HENC ⊢
  go_enter Try.func14, Try.ntmps14
  go_wp2_with fail
  refine HENC.out.mono ?_
  rintro e w2 ⟨A2, c2, rfl, ho2, hb2⟩
  have HB2 := hid (below_go HB.out hb2)
  have HX2 := hid (ev_keep HX.out hb2)
  have HO2 := hid (own_base (base' := w.heap.size + 1) ho2 (by simp))
  clear hb2 ho2 HENC
  obtain ⟨⟨e0, e1, e2, e3, e4⟩, hg⟩ := HX2.out
  have HCN := hid (counts_any p o h a x w2)
  unfold evv at HCN
  go_wp2_with fail
  refine HCN.out.mono ?_
  rintro e w3 ⟨rfl, hb3⟩
  have HB3 := hid (below_go HB2.out hb3)
  have HX3 := hid (ev_keep HX2.out hb3)
  have HO3 := hid (own_below HO2.out hb3)
  have HL3 := hid (HL.out.below HB3.out)
  clear hb3
  have HFS := hid (show ∀ j, F j → j < w.heap.size by
    obtain ⟨_, _, _, _, _, _, _, hX, _⟩ := HL.out.open
    exact hX.fs)
  have HF0 := hid (show F g by
    obtain ⟨_, _, _, _, _, _, _, hX, _⟩ := HL.out.open
    exact hX.f0)
  have hcb : (decide ((o : Int) ≠ 32 ∧ (o : Int) ≠ 33)) = true := by
    have := hc
    unfold cntE at this
    simp at this ⊢
    omega
  have hwfp : (Lit.int .i64 (p : Int)).wf = true := by
    have h1 := hr.1
    unfold EvOK at h1
    simp [Lit.wf, IntKind.min, IntKind.max, IntKind.signed, IntKind.bits]
    omega
  have HRM := hid (room_any F g cap q es (recN es) mis p w3 HL3.out hwfp)
  rw [show (decide (recN es p < cap)) = true by simpa using hroom] at HRM
  rw [hcb]
  obtain ⟨⟨f0, f1, f2, f3, f4⟩, hg3⟩ := HX3.out
  clear e0 e1 e2 e3 e4 hg
  go_wp2_with fail
  refine HRM.out.mono ?_
  rintro e w4 ⟨rfl, hb4⟩
  have HB4 := hid (below_go HB3.out hb4)
  have HX4 := hid (ev_keep HX3.out hb4)
  have HO4 := hid (own_below HO3.out hb4)
  have HL4 := hid (HL3.out.below hb4)
  clear hb4 f0 f1 f2 f3 f4 hg3
  obtain ⟨A3, c3, A4, c4, d, m4, m5, hX, hd, hR, hq1, hcap⟩ := (HL4.out.below ((Below.refl _ _).drew)).open
  have HGR := hid (grow_any g 4 _ _ m4 (recN es) q p w4.drew hX.blk rfl hX.h4 (apart2 hX.blk hX.h4) (by omega) hwfp)
  have HXX := hid hX
  have HD := hid hd
  have HRR := hid hR
  have HQ := hid hq1
  obtain ⟨⟨f0, f1, f2, f3, f4⟩, hg4⟩ := HX4.out
  have hneg : ¬ (w.heap.size = g ∨ m4 = some w.heap.size) := by
    rintro (h | h)
    · have := HFS.out g HF0.out; omega
    · have := HFS.out _ (HXX.out.f4 _ h); omega
  clear hX hd hR hq1
  go_wp2_with fail
  refine wp_region_noPanic ?_
  refine wp_region_held_drew (S := (fun W => W.cell? ⟨w.heap.size, 0, none⟩ = some (.int .i64 p))) (by kernel_rfl) f0 (fun hH0 => ?_)
  refine wpAnyH_take (i := 0) (v := ?_) rfl (by kernel_rfl) (by kernel_rfl) (by kernel_rfl) (fun _ _ _ h => h) (Or.inl ⟨by rfl, ?_⟩) hH0 ?_
  rotate_left
  · (intro w hSw; (try dsimp only at hSw); go_simp; try (with_reducible rfl))
  try simp only [Act.put, List.getElem_toArray, List.getElem_cons_zero, List.setIfInBounds_toArray, List.set_cons_zero, List.set_cons_succ]
  refine wpAnyH_take (i := 1) (v := ?_) rfl (by kernel_rfl) (by kernel_rfl) (by kernel_rfl) (fun _ _ _ h => h) (Or.inl ⟨by rfl, ?_⟩) hH0 ?_
  rotate_left
  · (intro w hSw; (try dsimp only at hSw); go_simp; try (with_reducible rfl))
  try simp only [Act.put, List.getElem_toArray, List.getElem_cons_zero, List.getElem_cons_succ, List.setIfInBounds_toArray, List.set_cons_zero, List.set_cons_succ]
  refine wpAnyH_take (i := 2) (v := ?_) rfl (by kernel_rfl) (by kernel_rfl) (by kernel_rfl) (fun _ _ _ h => h) (Or.inl ⟨by rfl, ?_⟩) hH0 ?_
  rotate_left
  · (intro w hSw; (try dsimp only at hSw); go_simp; try (with_reducible rfl))
  try simp only [Act.put, List.getElem_toArray, List.getElem_cons_zero, List.getElem_cons_succ, List.setIfInBounds_toArray, List.set_cons_zero, List.set_cons_succ]
  refine wpAnyH_take (i := 3) (v := ?_) rfl (by kernel_rfl) (by kernel_rfl) (by kernel_rfl) (fun _ _ _ h => h) (Or.inl ⟨by rfl, ?_⟩) hH0 ?_
  rotate_left
  · (intro w hSw; (try dsimp only at hSw); go_simp; try (with_reducible rfl))
  try simp only [Act.put, List.getElem_toArray, List.getElem_cons_zero, List.getElem_cons_succ, List.setIfInBounds_toArray, List.set_cons_zero, List.set_cons_succ]
  refine wpAnyH_take (i := 4) (v := ?_) rfl (by kernel_rfl) (by kernel_rfl) (by kernel_rfl) (fun _ _ _ h => h) (Or.inl ⟨by rfl, ?_⟩) hH0 ?_
  rotate_left
  · (intro w hSw; (try dsimp only at hSw); go_simp; try (with_reducible rfl))
  try simp only [Act.put, List.getElem_toArray, List.getElem_cons_zero, List.getElem_cons_succ, List.setIfInBounds_toArray, List.set_cons_zero, List.set_cons_succ]
  refine wpAnyH_ready (rs := [5]) (by kernel_rfl) (by simp) ?_
  refine AllReadyH.cons rfl (fun K hK => ?_) AllReadyH.nil
  simp only [List.getElem_toArray, List.getElem_cons_zero, List.getElem_cons_succ]
  go_simp
  refine HGR.out.mono ?_
  rintro e w5 ⟨rfl, b, hbb, hblk5, hM5, hT5⟩
  refine hK.out _ _ ((World.cell?_of_block (hT5.block w.heap.size hg4 hneg)).trans f0) (fun hH1 => ?_)
  clear hK K hH0
  try simp only [Act.put, List.setIfInBounds_toArray, List.set_cons_zero, List.set_cons_succ]
  refine wpAnyH_done (by kernel_rfl) ?_ _
  refine NoPanic.normal ?_
  have HST := hid (HXX.out.grow4 HD.out HRR.out HQ.out hcap hbb hblk5 hM5 hT5)
  clear hbb hblk5 hM5 hT5 f0 f1 f2 f3 f4 hg4 hneg HXX HD HGR hH1 hcap
  obtain ⟨F5, hL5, hT5, hF5⟩ := HST.out
  have HR5 := hid (show Run w4 F w5 F5 from ⟨⟨hT5.os, hT5.tape, hT5.output, hT5.size, hT5.block⟩, hF5⟩)
  have HL5 := hid (show LogF w5 F5 g cap es (recN (es ++ [(p, o, h, a, x)])) mis (q + 1) by rw [recN_snoc, if_pos hc]; exact hL5)
  clear hL5 hT5 hF5 HST m4 m5 A3 c3 A4 c4 d
  have HDG := hid (digest_any F5 g cap (q + 1) es _ mis w5 HL5.out)
  have hel : (encE p o h a x).length ≤ 50 := encV_short (p, o, h, a, x) hr
  have HO5 := hid (HR5.out.own HO4.out fun k hk e => by have := HFS.out k hk; have := (HO4.out.lt k e).1; omega)
  have HCH := hid (chain_any A2 _ c2 _ (endD fStart es) (encE p o h a x) w5 rfl (Sl.of_own HO5.out) (by unfold maxLen; omega) (Nat.le_refl _))
  have hDlt := chain_lt (endD fStart es) (encE p o h a x)
  obtain ⟨D, hD⟩ : ∃ D, D = chain (endD fStart es) (encE p o h a x) := ⟨_, rfl⟩
  rw [← hD] at HCH hDlt
  have HDE := hid hD
  clear hD
  go_wp2_with fail
  refine HDG.out.mono ?_
  rintro e _ ⟨rfl, rfl⟩
  go_wp2_with fail
  refine HCH.out.mono ?_
  rintro e w6 ⟨rfl, hb6⟩
  obtain ⟨A3, c3, A4, c4, d, m4, m5, hX, _, _, _, hcap⟩ := (HL5.out.below hb6).open
  have HR6 := hid ((HR5.out.below hb6).trans (hX.run3 D))
  have HX6 := hid (hX.last D)
  have HN0 := hid (show ¬ F5 w.heap.size by
    intro h
    rcases HR5.out.sub _ h with h1 | h1
    · have := HFS.out _ h1; omega
    · have := HX4.out.2; omega)
  have k3 := hX.blk.cell 3 rfl
  have z3 := hX.blk.frozen 3
  clear hX hb6
  obtain ⟨v6, hv6⟩ : ∃ v6, v6 = w6.setCell ⟨g, 3, none⟩ (.int .u64 D) := ⟨_, rfl⟩
  have HV6 := hid hv6
  rw [← hv6] at HR6 HX6
  clear hv6
  go_wp2_with fail
  simp only [← HV6.out]
  have HE6 := hid (HR6.out.ev HX4.out (fun h => by have := HFS.out _ h; omega))
  obtain ⟨bs, hbs⟩ : ∃ bs, bs = logB fStart es := ⟨_, rfl⟩
  have HBS := hid hbs
  rw [← hbs] at HX6
  clear k3 z3 hbs
  refine wp_region_noPanic ?_
  refine AnyJ.start (S := (fun W => W.cell? ⟨g, 1, none⟩ = some (.slice A3 es.length c3) ∧ W.cell? ⟨w.heap.size, 0, none⟩ = some (.int .i64 p) ∧ W.cell? ⟨w.heap.size, 1, none⟩ = some (.int .i64 o) ∧ W.cell? ⟨w.heap.size, 2, none⟩ = some (.int .u64 h) ∧ W.cell? ⟨w.heap.size, 3, none⟩ = some (.int .u64 a) ∧ W.cell? ⟨w.heap.size, 4, none⟩ = some (.int .i64 x))) (J := 10) (by kernel_rfl) ⟨HX6.out.blk.cell 1 rfl, HE6.out.1⟩ (fun hH0 => ?_)
  refine AnyJ.take (i := 0) (v := ?_) (T := [8, 9, 10]) rfl (by kernel_rfl) (by kernel_rfl) (by kernel_rfl) (by kernel_rfl) (fun _ _ _ h => h) (Or.inl ⟨by rfl, ?_⟩) hH0 ?_
  rotate_left
  · (intro w hSw; (try dsimp only at hSw); go_simp; try (with_reducible rfl))
  try simp only [Act.put, List.getElem_toArray, List.getElem_cons_zero, List.setIfInBounds_toArray, List.set_cons_zero, List.set_cons_succ]
  refine AnyJ.take (i := 1) (v := ?_) (T := [2, 3, 4, 7, 10]) rfl (by kernel_rfl) (by kernel_rfl) (by kernel_rfl) (by kernel_rfl) (fun _ _ _ h => h) (Or.inl ⟨by rfl, ?_⟩) hH0 ?_
  rotate_left
  · (intro w hSw; (try dsimp only at hSw); go_simp; try (with_reducible rfl))
  try simp only [Act.put, List.getElem_toArray, List.getElem_cons_zero, List.getElem_cons_succ, List.setIfInBounds_toArray, List.set_cons_zero, List.set_cons_succ]
  refine AnyJ.take (i := 2) (v := ?_) (T := [3, 4, 7, 10]) rfl (by kernel_rfl) (by kernel_rfl) (by kernel_rfl) (by kernel_rfl) (fun _ _ _ h => h) (Or.inl ⟨by rfl, ?_⟩) hH0 ?_
  rotate_left
  · (intro w hSw; (try dsimp only at hSw); go_simp; try (with_reducible rfl))
  try simp only [Act.put, List.getElem_toArray, List.getElem_cons_zero, List.getElem_cons_succ, List.setIfInBounds_toArray, List.set_cons_zero, List.set_cons_succ]
  refine AnyJ.take (i := 3) (v := ?_) (T := [4, 7, 10]) rfl (by kernel_rfl) (by kernel_rfl) (by kernel_rfl) (by kernel_rfl) (fun _ _ _ h => h) (Or.inl ⟨by rfl, ?_⟩) hH0 ?_
  rotate_left
  · (intro w hSw; (try dsimp only at hSw); go_simp; try (with_reducible rfl))
  try simp only [Act.put, List.getElem_toArray, List.getElem_cons_zero, List.getElem_cons_succ, List.setIfInBounds_toArray, List.set_cons_zero, List.set_cons_succ]
  refine AnyJ.take (i := 4) (v := ?_) (T := [7, 10]) rfl (by kernel_rfl) (by kernel_rfl) (by kernel_rfl) (by kernel_rfl) (fun _ _ _ h => h) (Or.inl ⟨by rfl, ?_⟩) hH0 ?_
  rotate_left
  · (intro w hSw; (try dsimp only at hSw); go_simp; try (with_reducible rfl))
  try simp only [Act.put, List.getElem_toArray, List.getElem_cons_zero, List.getElem_cons_succ, List.setIfInBounds_toArray, List.set_cons_zero, List.set_cons_succ]
  refine AnyJ.take (i := 5) (v := ?_) (T := [6, 7, 10]) rfl (by kernel_rfl) (by kernel_rfl) (by kernel_rfl) (by kernel_rfl) (fun _ _ _ h => h) (Or.inl ⟨by rfl, ?_⟩) hH0 ?_
  rotate_left
  · (intro w hSw; (try dsimp only at hSw); go_simp; try (with_reducible rfl))
  try simp only [Act.put, List.getElem_toArray, List.getElem_cons_zero, List.getElem_cons_succ, List.setIfInBounds_toArray, List.set_cons_zero, List.set_cons_succ]
  refine AnyJ.one (i := 6) (by kernel_rfl) rfl (fun K hK => ?_)
  simp only [List.getElem_toArray, List.getElem_cons_zero, List.getElem_cons_succ]
  go_simp
  refine hK.out _ _ (evS_go hH0 (below_new _ _ _)) (fun hH1 => ?_)
  clear hK K hH0
  try simp only [Act.put, List.setIfInBounds_toArray, List.set_cons_zero, List.set_cons_succ]
  refine AnyJ.one (i := 7) (by kernel_rfl) rfl (fun K hK => ?_)
  simp only [List.getElem_toArray, List.getElem_cons_zero, List.getElem_cons_succ]
  rw [if_pos (by rfl)]
  have HA11 := hid (HX6.out.below (((Below.refl _ _).drew).alloc (Nat.le_refl _) (.cells #[.int .i64 (p : Int), .int .i64 (o : Int), .int .u64 (h : Int), .int .u64 (a : Int), .int .i64 (x : Int)] 36)))
  refine wpo_appE (.tmp 41) (.tmp 43) rfl 0 A3 es.length c3 es rfl HA11.out.r1 (some ⟨v6.heap.size, 0, none⟩) _ 1 (p, o, h, a, x) rfl (Sl.new v6.drew _ _ _) (es.length + 1) rfl (by have := HQ.out; omega) (Nat.zero_le _) ?_
  intro A7 c7 w7 ho7 hg7 hb7
  have hs7 : w7.cell? ⟨g, 1, none⟩ = some (.slice A3 es.length c3) := (HA11.out.blk1 hg7).cell 1 rfl
  have hz7 : w7.frozen? ⟨g, 1, none⟩ = false := (HA11.out.blk1 hg7).frozen 1
  have HRL7 := hid (HA11.out.ev2 (by simp) ho7 hg7 hb7)
  have HSV7 := hid (evS_grown hH1 hs7 hg7 (fun e => HN0.out (HX6.out.f1 _ e)))
  clear ho7 hg7 hb7
  refine hK.out _ _ HSV7.out (fun hH2 => ?_)
  clear hK K hH1
  try simp only [Act.put, List.setIfInBounds_toArray, List.set_cons_zero, List.set_cons_succ]
  refine AnyJ.take (i := 8) (v := ?_) (T := [9, 10]) rfl (by kernel_rfl) (by kernel_rfl) (by kernel_rfl) (by kernel_rfl) (fun _ _ _ h => h) (Or.inl ⟨by rfl, ?_⟩) hH2 ?_
  rotate_left
  · (intro w hSw; (try dsimp only at hSw); go_simp; try (with_reducible rfl))
  try simp only [Act.put, List.getElem_toArray, List.getElem_cons_zero, List.getElem_cons_succ, List.setIfInBounds_toArray, List.set_cons_zero, List.set_cons_succ]
  refine AnyJ.take (i := 9) (v := ?_) (T := [10]) rfl (by kernel_rfl) (by kernel_rfl) (by kernel_rfl) (by kernel_rfl) (fun _ _ _ h => h) (Or.inl ⟨by rfl, ?_⟩) hH2 ?_
  rotate_left
  · (intro w hSw; (try dsimp only at hSw); go_simp; try (with_reducible rfl))
  try simp only [Act.put, List.getElem_toArray, List.getElem_cons_zero, List.getElem_cons_succ, List.setIfInBounds_toArray, List.set_cons_zero, List.set_cons_succ]
  refine AnyJ.last (by kernel_rfl) rfl (fun K hK => ?_)
  simp only [List.getElem_toArray, List.getElem_cons_zero, List.getElem_cons_succ]
  go_simp
  refine hK.out _ _ ?_
  clear hK K
  try simp only [Act.put, List.setIfInBounds_toArray, List.set_cons_zero, List.set_cons_succ]
  refine AnyJ.done (by kernel_rfl) ?_ _
  refine NoPanic.normal ?_
  obtain ⟨v8, hv8⟩ : ∃ v8, v8 = w7.setCell ⟨g, 1, none⟩ (.slice A7 (es.length + 1) c7) := ⟨_, rfl⟩
  have HV8 := hid hv8
  rw [← hv8] at HRL7
  clear hv8 hs7 hz7 HSV7 hH2
  obtain ⟨F8, hX8, hR8⟩ := HRL7.out
  have HR8 := hid ((HR6.out.below (((Below.refl _ _).drew).alloc (Nat.le_refl _) (.cells #[.int .i64 (p : Int), .int .i64 (o : Int), .int .u64 (h : Int), .int .u64 (a : Int), .int .i64 (x : Int)] 36))).trans hR8)
  have HX8 := hid hX8
  have HO8 := hid (HR8.out.own HO4.out fun k hk e => by have := HFS.out k hk; have := (HO4.out.lt k e).1; omega)
  clear hX8 hR8 HRL7 HA11
  go_wp2_with fail
  simp only [← HV8.out]
  have hbl : bs.length ≤ 4000000 := by
    have := logB_len es fStart HRR.out
    have := HQ.out
    rw [HBS.out]
    omega
  have HPB := hid (putB_any none A2 0 0 v8.drew.heap.size (encE p o h a x).length c2 [] (encE p o h a x) v8.drew rfl (.inl rfl) (Nat.le_refl _) (by omega) rfl (Sl.of_own HO8.out) (by omega))
  have hel2 := encB_len (encE p o h a x) (by omega)
  obtain ⟨eb, heb⟩ : ∃ eb, eb = encB (encE p o h a x) := ⟨_, rfl⟩
  obtain ⟨m, hm⟩ : ∃ m, m = eb.length := ⟨_, rfl⟩
  have hm60 : m ≤ 60 := by rw [hm, heb]; omega
  rw [List.nil_append, Nat.zero_add, ← heb, ← hm] at HPB
  have HEB := hid heb
  have HM := hid hm
  clear heb hm hel2
  refine wp_region_noPanic ?_
  refine AnyJ.start (S := (fun W => W.cell? ⟨g, 2, none⟩ = some (.slice A4 bs.length c4))) (J := 10) (by kernel_rfl) (HX8.out.blk.cell 2 rfl) (fun hH0 => ?_)
  refine AnyJ.take (i := 0) (v := ?_) (T := [8, 9, 10]) rfl (by kernel_rfl) (by kernel_rfl) (by kernel_rfl) (by kernel_rfl) (fun _ _ _ h => h) (Or.inl ⟨by rfl, ?_⟩) hH0 ?_
  rotate_left
  · (intro w hSw; (try dsimp only at hSw); go_simp; try (with_reducible rfl))
  try simp only [Act.put, List.getElem_toArray, List.getElem_cons_zero, List.setIfInBounds_toArray, List.set_cons_zero, List.set_cons_succ]
  refine AnyJ.take (i := 1) (v := ?_) (T := [2, 3, 4, 7, 10]) rfl (by kernel_rfl) (by kernel_rfl) (by kernel_rfl) (by kernel_rfl) (fun _ _ _ h => h) (Or.inl ⟨by rfl, ?_⟩) hH0 ?_
  rotate_left
  · (intro w hSw; (try dsimp only at hSw); go_simp; try (with_reducible rfl))
  try simp only [Act.put, List.getElem_toArray, List.getElem_cons_zero, List.getElem_cons_succ, List.setIfInBounds_toArray, List.set_cons_zero, List.set_cons_succ]
  refine AnyJ.take (i := 2) (v := ?_) (T := [3, 4, 7, 10]) rfl (by kernel_rfl) (by kernel_rfl) (by kernel_rfl) (by kernel_rfl) (fun _ _ _ h => h) (Or.inl ⟨by rfl, ?_⟩) hH0 ?_
  rotate_left
  · (intro w hSw; (try dsimp only at hSw); go_simp; try (with_reducible rfl))
  try simp only [Act.put, List.getElem_toArray, List.getElem_cons_zero, List.getElem_cons_succ, List.setIfInBounds_toArray, List.set_cons_zero, List.set_cons_succ]
  refine AnyJ.take (i := 3) (v := ?_) (T := [4, 7, 10]) rfl (by kernel_rfl) (by kernel_rfl) (by kernel_rfl) (by kernel_rfl) (fun _ _ _ h => h) (Or.inl ⟨by rfl, ?_⟩) hH0 ?_
  rotate_left
  · (intro w hSw; (try dsimp only at hSw); go_simp; try (with_reducible rfl))
  try simp only [Act.put, List.getElem_toArray, List.getElem_cons_zero, List.getElem_cons_succ, List.setIfInBounds_toArray, List.set_cons_zero, List.set_cons_succ]
  refine AnyJ.take (i := 4) (v := ?_) (T := [7, 10]) rfl (by kernel_rfl) (by kernel_rfl) (by kernel_rfl) (by kernel_rfl) (fun _ _ _ h => h) (Or.inl ⟨by rfl, ?_⟩) hH0 ?_
  rotate_left
  · (intro w hSw; (try dsimp only at hSw); go_simp; try (with_reducible rfl))
  try simp only [Act.put, List.getElem_toArray, List.getElem_cons_zero, List.getElem_cons_succ, List.setIfInBounds_toArray, List.set_cons_zero, List.set_cons_succ]
  refine AnyJ.take (i := 5) (v := ?_) (T := [6, 7, 10]) rfl (by kernel_rfl) (by kernel_rfl) (by kernel_rfl) (by kernel_rfl) (fun _ _ _ h => h) (Or.inl ⟨by rfl, ?_⟩) hH0 ?_
  rotate_left
  · (intro w hSw; (try dsimp only at hSw); go_simp; try (with_reducible rfl))
  try simp only [Act.put, List.getElem_toArray, List.getElem_cons_zero, List.getElem_cons_succ, List.setIfInBounds_toArray, List.set_cons_zero, List.set_cons_succ]
  refine AnyJ.one (i := 6) (by kernel_rfl) rfl (fun K hK => ?_)
  simp only [List.getElem_toArray, List.getElem_cons_zero, List.getElem_cons_succ]
  go_simp
  refine HPB.out.mono ?_
  rintro e w9 ⟨A9, c9, rfl, ho9, hb9⟩
  have hs9 := cell_go hH0 hb9
  have HB9 := hid (undrew hb9)
  have HO9 := hid ho9
  have HX9 := hid (HX8.out.below HB9.out)
  clear ho9 hb9
  refine hK.out _ _ hs9 (fun hH1 => ?_)
  clear hK K hH0
  try simp only [Act.put, List.setIfInBounds_toArray, List.set_cons_zero, List.set_cons_succ]
  refine AnyJ.one (i := 7) (by kernel_rfl) rfl (fun K hK => ?_)
  simp only [List.getElem_toArray, List.getElem_cons_zero, List.getElem_cons_succ]
  rw [if_pos (by rfl)]
  refine wpo_app8 (.tmp 51) (.tmp 53) rfl 0 A4 bs.length c4 bs rfl HX9.out.r2 A9 w9.heap.size m c9 eb rfl HM.out.symm (Sl.of_own HO9.out) _ rfl (by omega) (Nat.zero_le _) ?_
  intro A10 c10 w10 ho10 hg10 hb10
  have hs10 : w10.cell? ⟨g, 2, none⟩ = some (.slice A4 bs.length c4) := (HX9.out.blk2 hg10).cell 2 rfl
  have hz10 : w10.frozen? ⟨g, 2, none⟩ = false := (HX9.out.blk2 hg10).frozen 2
  obtain ⟨b2, hbe⟩ : ∃ b2, b2 = bs ++ eb := ⟨_, rfl⟩
  have HLE := hid (show b2.length = bs.length + m by rw [hbe, List.length_append, ← HM.out])
  rw [← hbe] at ho10
  have HBE := hid hbe
  clear hbe
  have HRL10 := hid (HX9.out.by2 HLE.out ho10 hg10 hb10)
  clear ho10 hg10 hb10
  refine hK.out _ _ hs10 (fun hH2 => ?_)
  clear hK K hH1
  try simp only [Act.put, List.setIfInBounds_toArray, List.set_cons_zero, List.set_cons_succ]
  refine AnyJ.take (i := 8) (v := ?_) (T := [9, 10]) rfl (by kernel_rfl) (by kernel_rfl) (by kernel_rfl) (by kernel_rfl) (fun _ _ _ h => h) (Or.inl ⟨by rfl, ?_⟩) hH2 ?_
  rotate_left
  · (intro w hSw; (try dsimp only at hSw); go_simp; try (with_reducible rfl))
  try simp only [Act.put, List.getElem_toArray, List.getElem_cons_zero, List.getElem_cons_succ, List.setIfInBounds_toArray, List.set_cons_zero, List.set_cons_succ]
  refine AnyJ.take (i := 9) (v := ?_) (T := [10]) rfl (by kernel_rfl) (by kernel_rfl) (by kernel_rfl) (by kernel_rfl) (fun _ _ _ h => h) (Or.inl ⟨by rfl, ?_⟩) hH2 ?_
  rotate_left
  · (intro w hSw; (try dsimp only at hSw); go_simp; try (with_reducible rfl))
  try simp only [Act.put, List.getElem_toArray, List.getElem_cons_zero, List.getElem_cons_succ, List.setIfInBounds_toArray, List.set_cons_zero, List.set_cons_succ]
  refine AnyJ.last (by kernel_rfl) rfl (fun K hK => ?_)
  simp only [List.getElem_toArray, List.getElem_cons_zero, List.getElem_cons_succ]
  go_simp
  refine hK.out _ _ ?_
  clear hK K
  try simp only [Act.put, List.setIfInBounds_toArray, List.set_cons_zero, List.set_cons_succ]
  refine AnyJ.done (by kernel_rfl) ?_ _
  refine NoPanic.normal ?_
  obtain ⟨v11, hv11⟩ : ∃ v11, v11 = w10.setCell ⟨g, 2, none⟩ (.slice A10 (bs.length + m) c10) := ⟨_, rfl⟩
  have HV11 := hid hv11
  rw [← hv11] at HRL10
  clear hv11 hs10 hz10 hH2
  obtain ⟨F11, hX11, hR11⟩ := HRL10.out
  have HR11 := hid ((HR8.out.below HB9.out).trans hR11)
  have HX11 := hid hX11
  clear hX11 hR11 HRL10
  go_wp2_with fail
  simp only [← HV11.out]
  have HDB := hid (dbytes_any D v11.drew)
  refine wp_region_noPanic ?_
  refine AnyJ.start (S := (fun W => W.cell? ⟨g, 2, none⟩ = some (.slice A10 b2.length c10) ∧ W.cell? ⟨g, 3, none⟩ = some (.int .u64 D))) (J := 13) (by kernel_rfl) ⟨HX11.out.blk.cell 2 rfl, HX11.out.blk.cell 3 rfl⟩ (fun hH0 => ?_)
  refine AnyJ.take (i := 0) (v := ?_) (T := [11, 12, 13]) rfl (by kernel_rfl) (by kernel_rfl) (by kernel_rfl) (by kernel_rfl) (fun _ _ _ h => h) (Or.inl ⟨by rfl, ?_⟩) hH0 ?_
  rotate_left
  · (intro w hSw; (try dsimp only at hSw); go_simp; try (with_reducible rfl))
  try simp only [Act.put, List.getElem_toArray, List.getElem_cons_zero, List.setIfInBounds_toArray, List.set_cons_zero, List.set_cons_succ]
  refine AnyJ.take (i := 1) (v := ?_) (T := [2, 3, 4, 10, 13]) rfl (by kernel_rfl) (by kernel_rfl) (by kernel_rfl) (by kernel_rfl) (fun _ _ _ h => h) (Or.inl ⟨by rfl, ?_⟩) hH0 ?_
  rotate_left
  · (intro w hSw; (try dsimp only at hSw); go_simp; try (with_reducible rfl))
  try simp only [Act.put, List.getElem_toArray, List.getElem_cons_zero, List.getElem_cons_succ, List.setIfInBounds_toArray, List.set_cons_zero, List.set_cons_succ]
  refine AnyJ.take (i := 2) (v := ?_) (T := [3, 4, 10, 13]) rfl (by kernel_rfl) (by kernel_rfl) (by kernel_rfl) (by kernel_rfl) (fun _ _ _ h => h) (Or.inl ⟨by rfl, ?_⟩) hH0 ?_
  rotate_left
  · (intro w hSw; (try dsimp only at hSw); go_simp; try (with_reducible rfl))
  try simp only [Act.put, List.getElem_toArray, List.getElem_cons_zero, List.getElem_cons_succ, List.setIfInBounds_toArray, List.set_cons_zero, List.set_cons_succ]
  refine AnyJ.take (i := 3) (v := ?_) (T := [4, 10, 13]) rfl (by kernel_rfl) (by kernel_rfl) (by kernel_rfl) (by kernel_rfl) (fun _ _ _ h => h) (Or.inl ⟨by rfl, ?_⟩) hH0 ?_
  rotate_left
  · (intro w hSw; (try dsimp only at hSw); go_simp; try (with_reducible rfl))
  try simp only [Act.put, List.getElem_toArray, List.getElem_cons_zero, List.getElem_cons_succ, List.setIfInBounds_toArray, List.set_cons_zero, List.set_cons_succ]
  refine AnyJ.take (i := 4) (v := ?_) (T := [10, 13]) rfl (by kernel_rfl) (by kernel_rfl) (by kernel_rfl) (by kernel_rfl) (fun _ _ _ h => h) (Or.inl ⟨by rfl, ?_⟩) hH0 ?_
  rotate_left
  · (intro w hSw; (try dsimp only at hSw); go_simp; try (with_reducible rfl))
  try simp only [Act.put, List.getElem_toArray, List.getElem_cons_zero, List.getElem_cons_succ, List.setIfInBounds_toArray, List.set_cons_zero, List.set_cons_succ]
  refine AnyJ.take (i := 5) (v := ?_) (T := [6, 7, 8, 9, 10, 13]) rfl (by kernel_rfl) (by kernel_rfl) (by kernel_rfl) (by kernel_rfl) (fun _ _ _ h => h) (Or.inl ⟨by rfl, ?_⟩) hH0 ?_
  rotate_left
  · (intro w hSw; (try dsimp only at hSw); go_simp; try (with_reducible rfl))
  try simp only [Act.put, List.getElem_toArray, List.getElem_cons_zero, List.getElem_cons_succ, List.setIfInBounds_toArray, List.set_cons_zero, List.set_cons_succ]
  refine AnyJ.take (i := 6) (v := ?_) (T := [7, 8, 9, 10, 13]) rfl (by kernel_rfl) (by kernel_rfl) (by kernel_rfl) (by kernel_rfl) (fun _ _ _ h => h) (Or.inl ⟨by rfl, ?_⟩) hH0 ?_
  rotate_left
  · (intro w hSw; (try dsimp only at hSw); go_simp; try (with_reducible rfl))
  try simp only [Act.put, List.getElem_toArray, List.getElem_cons_zero, List.getElem_cons_succ, List.setIfInBounds_toArray, List.set_cons_zero, List.set_cons_succ]
  refine AnyJ.take (i := 7) (v := ?_) (T := [8, 9, 10, 13]) rfl (by kernel_rfl) (by kernel_rfl) (by kernel_rfl) (by kernel_rfl) (fun _ _ _ h => h) (Or.inl ⟨by rfl, ?_⟩) hH0 ?_
  rotate_left
  · (intro w hSw; (try dsimp only at hSw); go_simp; try (with_reducible rfl))
  try simp only [Act.put, List.getElem_toArray, List.getElem_cons_zero, List.getElem_cons_succ, List.setIfInBounds_toArray, List.set_cons_zero, List.set_cons_succ]
  refine AnyJ.take (i := 8) (v := ?_) (T := [9, 10, 13]) rfl (by kernel_rfl) (by kernel_rfl) (by kernel_rfl) (by kernel_rfl) (fun _ _ _ h => h) (Or.inl ⟨by rfl, ?_⟩) hH0 ?_
  rotate_left
  · (intro w hSw; (try dsimp only at hSw); go_simp; try (with_reducible rfl))
  try simp only [Act.put, List.getElem_toArray, List.getElem_cons_zero, List.getElem_cons_succ, List.setIfInBounds_toArray, List.set_cons_zero, List.set_cons_succ]
  refine AnyJ.one (i := 9) (by kernel_rfl) rfl (fun K hK => ?_)
  simp only [List.getElem_toArray, List.getElem_cons_zero, List.getElem_cons_succ]
  go_simp
  refine HDB.out.mono ?_
  rintro e w12 ⟨A12, c12, rfl, ho12, hb12⟩
  have hs12 := cell_go hH0.1 hb12
  have hd12 := cell_go hH0.2 hb12
  have HB12 := hid (undrew hb12)
  have HO12 := hid ho12
  have HX12 := hid (HX11.out.below HB12.out)
  clear ho12 hb12
  refine hK.out _ _ ⟨hs12, hd12⟩ (fun hH1 => ?_)
  clear hK K hH0
  try simp only [Act.put, List.setIfInBounds_toArray, List.set_cons_zero, List.set_cons_succ]
  refine AnyJ.one (i := 10) (by kernel_rfl) rfl (fun K hK => ?_)
  simp only [List.getElem_toArray, List.getElem_cons_zero, List.getElem_cons_succ]
  rw [if_pos (by rfl)]
  refine wpo_app8 (.tmp 61) (.tmp 66) rfl 0 A10 b2.length c10 b2 rfl HX12.out.r2 A12 w12.heap.size 8 c12 (leb D 8) rfl (leb_length _ _) (Sl.of_own HO12.out) _ rfl (by rw [HLE.out]; omega) (Nat.zero_le _) ?_
  intro A13 c13 w13 ho13 hg13 hb13
  have hs13 := HX12.out.blk2 hg13
  have hc13 : w13.cell? ⟨g, 2, none⟩ = some (.slice A10 b2.length c10) := hs13.cell 2 rfl
  have hd13 : w13.cell? ⟨g, 3, none⟩ = some (.int .u64 D) := hs13.cell 3 rfl
  have hz13 : w13.frozen? ⟨g, 2, none⟩ = false := hs13.frozen 2
  have HRL13 := hid (HX12.out.by2 (by rw [List.length_append, leb_length]) ho13 hg13 hb13)
  clear ho13 hg13 hb13 hs13
  refine hK.out _ _ ⟨hc13, hd13⟩ (fun hH2 => ?_)
  clear hK K hH1
  try simp only [Act.put, List.setIfInBounds_toArray, List.set_cons_zero, List.set_cons_succ]
  refine AnyJ.take (i := 11) (v := ?_) (T := [12, 13]) rfl (by kernel_rfl) (by kernel_rfl) (by kernel_rfl) (by kernel_rfl) (fun _ _ _ h => h) (Or.inl ⟨by rfl, ?_⟩) hH2 ?_
  rotate_left
  · (intro w hSw; (try dsimp only at hSw); go_simp; try (with_reducible rfl))
  try simp only [Act.put, List.getElem_toArray, List.getElem_cons_zero, List.getElem_cons_succ, List.setIfInBounds_toArray, List.set_cons_zero, List.set_cons_succ]
  refine AnyJ.take (i := 12) (v := ?_) (T := [13]) rfl (by kernel_rfl) (by kernel_rfl) (by kernel_rfl) (by kernel_rfl) (fun _ _ _ h => h) (Or.inl ⟨by rfl, ?_⟩) hH2 ?_
  rotate_left
  · (intro w hSw; (try dsimp only at hSw); go_simp; try (with_reducible rfl))
  try simp only [Act.put, List.getElem_toArray, List.getElem_cons_zero, List.getElem_cons_succ, List.setIfInBounds_toArray, List.set_cons_zero, List.set_cons_succ]
  refine AnyJ.last (by kernel_rfl) rfl (fun K hK => ?_)
  simp only [List.getElem_toArray, List.getElem_cons_zero, List.getElem_cons_succ]
  go_simp
  refine hK.out _ _ ?_
  clear hK K
  try simp only [Act.put, List.setIfInBounds_toArray, List.set_cons_zero, List.set_cons_succ]
  refine AnyJ.done (by kernel_rfl) ?_ _
  refine NoPanic.normal ?_
  obtain ⟨v14, hv14⟩ : ∃ v14, v14 = w13.setCell ⟨g, 2, none⟩ (.slice A13 (b2.length + 8) c13) := ⟨_, rfl⟩
  have HV14 := hid hv14
  rw [← hv14] at HRL13
  clear hv14 hc13 hd13 hz13 hH2
  go_wp2_with fail
  simp only [← HV14.out]
  obtain ⟨F14, hX14, hR14⟩ := HRL13.out
  have HR14 := hid ((HR11.out.below HB12.out).trans hR14)
  have hbs : b2 ++ leb D 8 = logB fStart (es ++ [(p, o, h, a, x)]) := by
    rw [logB_snoc, HBE.out, HBS.out, HEB.out, HDE.out, List.append_assoc]
    rfl
  rw [hbs] at hX14
  have HLF := hid (hX14.shut (fun _ => by rw [endD_snoc, HDE.out]; rfl) (fun e he => by
    rcases List.mem_append.1 he with h | h
    · exact HRR.out e h
    · simp at h; subst h; exact hr) (by have := HQ.out; simp; omega) hcap)
  clear hX14 hR14
  go_ret
  refine ⟨rfl, F14, HLF.out, ?_⟩
  have hR := (Run.of_below (F := F) HB4.out).trans HR14.out
  exact ⟨hR.turn, hR.sub⟩

set_option maxRecDepth 100000 in
set_option maxHeartbeats 2000000 in
theorem append_free (F : Nat → Prop) (g cap q : Nat) (es : List Ev) (mis : Int → Nat) (p o h a x : Nat) (w : World) (hl : LogAt w F g cap es mis q) (hr : Right (p, o, h, a, x)) (hq : q < 50000) (hc : cntE (p, o, h, a, x) = false) :
    Calls Try.prog 14 #[.pointer (some ⟨g, 0, none⟩), evv p o h a x] w fun e w' => e = .returned (.int .i64 0) ∧ Step w F g cap (es ++ [(p, o, h, a, x)]) (recN (es ++ [(p, o, h, a, x)])) mis (q + 1) w' := by
  have HENC := hid (encode_yes p o h a x (w.alloc (.cells #[.int .i64 (p : Int), .int .i64 (o : Int), .int .u64 (h : Int), .int .u64 (a : Int), .int .i64 (x : Int)] 36)) hr.1 hr.2.1 hr.2.2)
  have HX := hid (ev_new p o h a x w)
  have HB := hid (below_new w #[.int .i64 (p : Int), .int .i64 (o : Int), .int .u64 (h : Int), .int .u64 (a : Int), .int .i64 (x : Int)] 36)
  have HL := hid hl
  clear hl
  unfold evv at HENC ⊢
  go_enter Try.func14, Try.ntmps14
  go_wp2_with fail
  refine HENC.out.mono ?_
  rintro e w2 ⟨A2, c2, rfl, ho2, hb2⟩
  have HB2 := hid (below_go HB.out hb2)
  have HX2 := hid (ev_keep HX.out hb2)
  have HO2 := hid (own_base (base' := w.heap.size + 1) ho2 (by simp))
  clear hb2 ho2 HENC
  obtain ⟨⟨e0, e1, e2, e3, e4⟩, hg⟩ := HX2.out
  have HCN := hid (counts_any p o h a x w2)
  unfold evv at HCN
  go_wp2_with fail
  refine HCN.out.mono ?_
  rintro e w3 ⟨rfl, hb3⟩
  have HB3 := hid (below_go HB2.out hb3)
  have HX3 := hid (ev_keep HX2.out hb3)
  have HO3 := hid (own_below HO2.out hb3)
  have HL3 := hid (HL.out.below HB3.out)
  clear hb3
  have HFS := hid (show ∀ j, F j → j < w.heap.size by
    obtain ⟨_, _, _, _, _, _, _, hX, _⟩ := HL.out.open
    exact hX.fs)
  have HF0 := hid (show F g by
    obtain ⟨_, _, _, _, _, _, _, hX, _⟩ := HL.out.open
    exact hX.f0)
  have hcb : (decide ((o : Int) ≠ 32 ∧ (o : Int) ≠ 33)) = false := by
    have := hc
    unfold cntE at this
    simp at this ⊢
    omega
  rw [hcb]
  clear e0 e1 e2 e3 e4 hg
  obtain ⟨w4, hw4⟩ : ∃ w4, w4 = w3 := ⟨_, rfl⟩
  have HB4 := hid (show Below w.heap.size w w4 by rw [hw4]; exact HB3.out)
  have HX4 := hid (show EvAt w.heap.size p o h a x w4 by rw [hw4]; exact HX3.out)
  have HO4 := hid (show w4.ownsRow (w.heap.size + 1) 5 1 (.slice A2 (encE p o h a x).length c2) (encE p o h a x).length (bys (encE p o h a x)) by rw [hw4]; exact HO3.out)
  obtain ⟨F5, hF5⟩ : ∃ F5, F5 = F := ⟨_, rfl⟩
  obtain ⟨w5, hw5⟩ : ∃ w5, w5 = w3 := ⟨_, rfl⟩
  have HR5 := hid (show Run w4 F w5 F5 by rw [hw4, hw5, hF5]; exact Run.refl _ _)
  have HL5 := hid (show LogF w5 F5 g cap es (recN (es ++ [(p, o, h, a, x)])) mis (q + 1) by rw [recN_snoc, if_neg (by rw [hc]; decide), hw5, hF5]; exact HL3.out.more (by omega))
  have HQ := hid (show es.length ≤ q by obtain ⟨_, _, _, _, _, _, _, _, _, _, h, _⟩ := HL.out.open; exact h)
  have HRR := hid (show ∀ e ∈ es, Right e by obtain ⟨_, _, _, _, _, _, _, _, _, h, _⟩ := HL.out.open; exact h)
  obtain rfl := hw5
  clear hw4 hF5
  have HDG := hid (digest_any F5 g cap (q + 1) es _ mis w5 HL5.out)
  have hel : (encE p o h a x).length ≤ 50 := encV_short (p, o, h, a, x) hr
  have HO5 := hid (HR5.out.own HO4.out fun k hk e => by have := HFS.out k hk; have := (HO4.out.lt k e).1; omega)
  have HCH := hid (chain_any A2 _ c2 _ (endD fStart es) (encE p o h a x) w5 rfl (Sl.of_own HO5.out) (by unfold maxLen; omega) (Nat.le_refl _))
  have hDlt := chain_lt (endD fStart es) (encE p o h a x)
  obtain ⟨D, hD⟩ : ∃ D, D = chain (endD fStart es) (encE p o h a x) := ⟨_, rfl⟩
  rw [← hD] at HCH hDlt
  have HDE := hid hD
  clear hD
  go_wp2_with fail
  refine HDG.out.mono ?_
  rintro e _ ⟨rfl, rfl⟩
  go_wp2_with fail
  refine HCH.out.mono ?_
  rintro e w6 ⟨rfl, hb6⟩
  obtain ⟨A3, c3, A4, c4, d, m4, m5, hX, _, _, _, hcap⟩ := (HL5.out.below hb6).open
  have HR6 := hid ((HR5.out.below hb6).trans (hX.run3 D))
  have HX6 := hid (hX.last D)
  have HN0 := hid (show ¬ F5 w.heap.size by
    intro h
    rcases HR5.out.sub _ h with h1 | h1
    · have := HFS.out _ h1; omega
    · have := HX4.out.2; omega)
  have k3 := hX.blk.cell 3 rfl
  have z3 := hX.blk.frozen 3
  clear hX hb6
  obtain ⟨v6, hv6⟩ : ∃ v6, v6 = w6.setCell ⟨g, 3, none⟩ (.int .u64 D) := ⟨_, rfl⟩
  have HV6 := hid hv6
  rw [← hv6] at HR6 HX6
  clear hv6
  go_wp2_with fail
  simp only [← HV6.out]
  have HE6 := hid (HR6.out.ev HX4.out (fun h => by have := HFS.out _ h; omega))
  obtain ⟨bs, hbs⟩ : ∃ bs, bs = logB fStart es := ⟨_, rfl⟩
  have HBS := hid hbs
  rw [← hbs] at HX6
  clear k3 z3 hbs
  refine wp_region_noPanic ?_
  refine AnyJ.start (S := (fun W => W.cell? ⟨g, 1, none⟩ = some (.slice A3 es.length c3) ∧ W.cell? ⟨w.heap.size, 0, none⟩ = some (.int .i64 p) ∧ W.cell? ⟨w.heap.size, 1, none⟩ = some (.int .i64 o) ∧ W.cell? ⟨w.heap.size, 2, none⟩ = some (.int .u64 h) ∧ W.cell? ⟨w.heap.size, 3, none⟩ = some (.int .u64 a) ∧ W.cell? ⟨w.heap.size, 4, none⟩ = some (.int .i64 x))) (J := 10) (by kernel_rfl) ⟨HX6.out.blk.cell 1 rfl, HE6.out.1⟩ (fun hH0 => ?_)
  refine AnyJ.take (i := 0) (v := ?_) (T := [8, 9, 10]) rfl (by kernel_rfl) (by kernel_rfl) (by kernel_rfl) (by kernel_rfl) (fun _ _ _ h => h) (Or.inl ⟨by rfl, ?_⟩) hH0 ?_
  rotate_left
  · (intro w hSw; (try dsimp only at hSw); go_simp; try (with_reducible rfl))
  try simp only [Act.put, List.getElem_toArray, List.getElem_cons_zero, List.setIfInBounds_toArray, List.set_cons_zero, List.set_cons_succ]
  refine AnyJ.take (i := 1) (v := ?_) (T := [2, 3, 4, 7, 10]) rfl (by kernel_rfl) (by kernel_rfl) (by kernel_rfl) (by kernel_rfl) (fun _ _ _ h => h) (Or.inl ⟨by rfl, ?_⟩) hH0 ?_
  rotate_left
  · (intro w hSw; (try dsimp only at hSw); go_simp; try (with_reducible rfl))
  try simp only [Act.put, List.getElem_toArray, List.getElem_cons_zero, List.getElem_cons_succ, List.setIfInBounds_toArray, List.set_cons_zero, List.set_cons_succ]
  refine AnyJ.take (i := 2) (v := ?_) (T := [3, 4, 7, 10]) rfl (by kernel_rfl) (by kernel_rfl) (by kernel_rfl) (by kernel_rfl) (fun _ _ _ h => h) (Or.inl ⟨by rfl, ?_⟩) hH0 ?_
  rotate_left
  · (intro w hSw; (try dsimp only at hSw); go_simp; try (with_reducible rfl))
  try simp only [Act.put, List.getElem_toArray, List.getElem_cons_zero, List.getElem_cons_succ, List.setIfInBounds_toArray, List.set_cons_zero, List.set_cons_succ]
  refine AnyJ.take (i := 3) (v := ?_) (T := [4, 7, 10]) rfl (by kernel_rfl) (by kernel_rfl) (by kernel_rfl) (by kernel_rfl) (fun _ _ _ h => h) (Or.inl ⟨by rfl, ?_⟩) hH0 ?_
  rotate_left
  · (intro w hSw; (try dsimp only at hSw); go_simp; try (with_reducible rfl))
  try simp only [Act.put, List.getElem_toArray, List.getElem_cons_zero, List.getElem_cons_succ, List.setIfInBounds_toArray, List.set_cons_zero, List.set_cons_succ]
  refine AnyJ.take (i := 4) (v := ?_) (T := [7, 10]) rfl (by kernel_rfl) (by kernel_rfl) (by kernel_rfl) (by kernel_rfl) (fun _ _ _ h => h) (Or.inl ⟨by rfl, ?_⟩) hH0 ?_
  rotate_left
  · (intro w hSw; (try dsimp only at hSw); go_simp; try (with_reducible rfl))
  try simp only [Act.put, List.getElem_toArray, List.getElem_cons_zero, List.getElem_cons_succ, List.setIfInBounds_toArray, List.set_cons_zero, List.set_cons_succ]
  refine AnyJ.take (i := 5) (v := ?_) (T := [6, 7, 10]) rfl (by kernel_rfl) (by kernel_rfl) (by kernel_rfl) (by kernel_rfl) (fun _ _ _ h => h) (Or.inl ⟨by rfl, ?_⟩) hH0 ?_
  rotate_left
  · (intro w hSw; (try dsimp only at hSw); go_simp; try (with_reducible rfl))
  try simp only [Act.put, List.getElem_toArray, List.getElem_cons_zero, List.getElem_cons_succ, List.setIfInBounds_toArray, List.set_cons_zero, List.set_cons_succ]
  refine AnyJ.one (i := 6) (by kernel_rfl) rfl (fun K hK => ?_)
  simp only [List.getElem_toArray, List.getElem_cons_zero, List.getElem_cons_succ]
  go_simp
  refine hK.out _ _ (evS_go hH0 (below_new _ _ _)) (fun hH1 => ?_)
  clear hK K hH0
  try simp only [Act.put, List.setIfInBounds_toArray, List.set_cons_zero, List.set_cons_succ]
  refine AnyJ.one (i := 7) (by kernel_rfl) rfl (fun K hK => ?_)
  simp only [List.getElem_toArray, List.getElem_cons_zero, List.getElem_cons_succ]
  rw [if_pos (by rfl)]
  have HA11 := hid (HX6.out.below (((Below.refl _ _).drew).alloc (Nat.le_refl _) (.cells #[.int .i64 (p : Int), .int .i64 (o : Int), .int .u64 (h : Int), .int .u64 (a : Int), .int .i64 (x : Int)] 36)))
  refine wpo_appE (.tmp 41) (.tmp 43) rfl 0 A3 es.length c3 es rfl HA11.out.r1 (some ⟨v6.heap.size, 0, none⟩) _ 1 (p, o, h, a, x) rfl (Sl.new v6.drew _ _ _) (es.length + 1) rfl (by have := HQ.out; omega) (Nat.zero_le _) ?_
  intro A7 c7 w7 ho7 hg7 hb7
  have hs7 : w7.cell? ⟨g, 1, none⟩ = some (.slice A3 es.length c3) := (HA11.out.blk1 hg7).cell 1 rfl
  have hz7 : w7.frozen? ⟨g, 1, none⟩ = false := (HA11.out.blk1 hg7).frozen 1
  have HRL7 := hid (HA11.out.ev2 (by simp) ho7 hg7 hb7)
  have HSV7 := hid (evS_grown hH1 hs7 hg7 (fun e => HN0.out (HX6.out.f1 _ e)))
  clear ho7 hg7 hb7
  refine hK.out _ _ HSV7.out (fun hH2 => ?_)
  clear hK K hH1
  try simp only [Act.put, List.setIfInBounds_toArray, List.set_cons_zero, List.set_cons_succ]
  refine AnyJ.take (i := 8) (v := ?_) (T := [9, 10]) rfl (by kernel_rfl) (by kernel_rfl) (by kernel_rfl) (by kernel_rfl) (fun _ _ _ h => h) (Or.inl ⟨by rfl, ?_⟩) hH2 ?_
  rotate_left
  · (intro w hSw; (try dsimp only at hSw); go_simp; try (with_reducible rfl))
  try simp only [Act.put, List.getElem_toArray, List.getElem_cons_zero, List.getElem_cons_succ, List.setIfInBounds_toArray, List.set_cons_zero, List.set_cons_succ]
  refine AnyJ.take (i := 9) (v := ?_) (T := [10]) rfl (by kernel_rfl) (by kernel_rfl) (by kernel_rfl) (by kernel_rfl) (fun _ _ _ h => h) (Or.inl ⟨by rfl, ?_⟩) hH2 ?_
  rotate_left
  · (intro w hSw; (try dsimp only at hSw); go_simp; try (with_reducible rfl))
  try simp only [Act.put, List.getElem_toArray, List.getElem_cons_zero, List.getElem_cons_succ, List.setIfInBounds_toArray, List.set_cons_zero, List.set_cons_succ]
  refine AnyJ.last (by kernel_rfl) rfl (fun K hK => ?_)
  simp only [List.getElem_toArray, List.getElem_cons_zero, List.getElem_cons_succ]
  go_simp
  refine hK.out _ _ ?_
  clear hK K
  try simp only [Act.put, List.setIfInBounds_toArray, List.set_cons_zero, List.set_cons_succ]
  refine AnyJ.done (by kernel_rfl) ?_ _
  refine NoPanic.normal ?_
  obtain ⟨v8, hv8⟩ : ∃ v8, v8 = w7.setCell ⟨g, 1, none⟩ (.slice A7 (es.length + 1) c7) := ⟨_, rfl⟩
  have HV8 := hid hv8
  rw [← hv8] at HRL7
  clear hv8 hs7 hz7 HSV7 hH2
  obtain ⟨F8, hX8, hR8⟩ := HRL7.out
  have HR8 := hid ((HR6.out.below (((Below.refl _ _).drew).alloc (Nat.le_refl _) (.cells #[.int .i64 (p : Int), .int .i64 (o : Int), .int .u64 (h : Int), .int .u64 (a : Int), .int .i64 (x : Int)] 36))).trans hR8)
  have HX8 := hid hX8
  have HO8 := hid (HR8.out.own HO4.out fun k hk e => by have := HFS.out k hk; have := (HO4.out.lt k e).1; omega)
  clear hX8 hR8 HRL7 HA11
  go_wp2_with fail
  simp only [← HV8.out]
  have hbl : bs.length ≤ 4000000 := by
    have := logB_len es fStart HRR.out
    have := HQ.out
    rw [HBS.out]
    omega
  have HPB := hid (putB_any none A2 0 0 v8.drew.heap.size (encE p o h a x).length c2 [] (encE p o h a x) v8.drew rfl (.inl rfl) (Nat.le_refl _) (by omega) rfl (Sl.of_own HO8.out) (by omega))
  have hel2 := encB_len (encE p o h a x) (by omega)
  obtain ⟨eb, heb⟩ : ∃ eb, eb = encB (encE p o h a x) := ⟨_, rfl⟩
  obtain ⟨m, hm⟩ : ∃ m, m = eb.length := ⟨_, rfl⟩
  have hm60 : m ≤ 60 := by rw [hm, heb]; omega
  rw [List.nil_append, Nat.zero_add, ← heb, ← hm] at HPB
  have HEB := hid heb
  have HM := hid hm
  clear heb hm hel2
  refine wp_region_noPanic ?_
  refine AnyJ.start (S := (fun W => W.cell? ⟨g, 2, none⟩ = some (.slice A4 bs.length c4))) (J := 10) (by kernel_rfl) (HX8.out.blk.cell 2 rfl) (fun hH0 => ?_)
  refine AnyJ.take (i := 0) (v := ?_) (T := [8, 9, 10]) rfl (by kernel_rfl) (by kernel_rfl) (by kernel_rfl) (by kernel_rfl) (fun _ _ _ h => h) (Or.inl ⟨by rfl, ?_⟩) hH0 ?_
  rotate_left
  · (intro w hSw; (try dsimp only at hSw); go_simp; try (with_reducible rfl))
  try simp only [Act.put, List.getElem_toArray, List.getElem_cons_zero, List.setIfInBounds_toArray, List.set_cons_zero, List.set_cons_succ]
  refine AnyJ.take (i := 1) (v := ?_) (T := [2, 3, 4, 7, 10]) rfl (by kernel_rfl) (by kernel_rfl) (by kernel_rfl) (by kernel_rfl) (fun _ _ _ h => h) (Or.inl ⟨by rfl, ?_⟩) hH0 ?_
  rotate_left
  · (intro w hSw; (try dsimp only at hSw); go_simp; try (with_reducible rfl))
  try simp only [Act.put, List.getElem_toArray, List.getElem_cons_zero, List.getElem_cons_succ, List.setIfInBounds_toArray, List.set_cons_zero, List.set_cons_succ]
  refine AnyJ.take (i := 2) (v := ?_) (T := [3, 4, 7, 10]) rfl (by kernel_rfl) (by kernel_rfl) (by kernel_rfl) (by kernel_rfl) (fun _ _ _ h => h) (Or.inl ⟨by rfl, ?_⟩) hH0 ?_
  rotate_left
  · (intro w hSw; (try dsimp only at hSw); go_simp; try (with_reducible rfl))
  try simp only [Act.put, List.getElem_toArray, List.getElem_cons_zero, List.getElem_cons_succ, List.setIfInBounds_toArray, List.set_cons_zero, List.set_cons_succ]
  refine AnyJ.take (i := 3) (v := ?_) (T := [4, 7, 10]) rfl (by kernel_rfl) (by kernel_rfl) (by kernel_rfl) (by kernel_rfl) (fun _ _ _ h => h) (Or.inl ⟨by rfl, ?_⟩) hH0 ?_
  rotate_left
  · (intro w hSw; (try dsimp only at hSw); go_simp; try (with_reducible rfl))
  try simp only [Act.put, List.getElem_toArray, List.getElem_cons_zero, List.getElem_cons_succ, List.setIfInBounds_toArray, List.set_cons_zero, List.set_cons_succ]
  refine AnyJ.take (i := 4) (v := ?_) (T := [7, 10]) rfl (by kernel_rfl) (by kernel_rfl) (by kernel_rfl) (by kernel_rfl) (fun _ _ _ h => h) (Or.inl ⟨by rfl, ?_⟩) hH0 ?_
  rotate_left
  · (intro w hSw; (try dsimp only at hSw); go_simp; try (with_reducible rfl))
  try simp only [Act.put, List.getElem_toArray, List.getElem_cons_zero, List.getElem_cons_succ, List.setIfInBounds_toArray, List.set_cons_zero, List.set_cons_succ]
  refine AnyJ.take (i := 5) (v := ?_) (T := [6, 7, 10]) rfl (by kernel_rfl) (by kernel_rfl) (by kernel_rfl) (by kernel_rfl) (fun _ _ _ h => h) (Or.inl ⟨by rfl, ?_⟩) hH0 ?_
  rotate_left
  · (intro w hSw; (try dsimp only at hSw); go_simp; try (with_reducible rfl))
  try simp only [Act.put, List.getElem_toArray, List.getElem_cons_zero, List.getElem_cons_succ, List.setIfInBounds_toArray, List.set_cons_zero, List.set_cons_succ]
  refine AnyJ.one (i := 6) (by kernel_rfl) rfl (fun K hK => ?_)
  simp only [List.getElem_toArray, List.getElem_cons_zero, List.getElem_cons_succ]
  go_simp
  refine HPB.out.mono ?_
  rintro e w9 ⟨A9, c9, rfl, ho9, hb9⟩
  have hs9 := cell_go hH0 hb9
  have HB9 := hid (undrew hb9)
  have HO9 := hid ho9
  have HX9 := hid (HX8.out.below HB9.out)
  clear ho9 hb9
  refine hK.out _ _ hs9 (fun hH1 => ?_)
  clear hK K hH0
  try simp only [Act.put, List.setIfInBounds_toArray, List.set_cons_zero, List.set_cons_succ]
  refine AnyJ.one (i := 7) (by kernel_rfl) rfl (fun K hK => ?_)
  simp only [List.getElem_toArray, List.getElem_cons_zero, List.getElem_cons_succ]
  rw [if_pos (by rfl)]
  refine wpo_app8 (.tmp 51) (.tmp 53) rfl 0 A4 bs.length c4 bs rfl HX9.out.r2 A9 w9.heap.size m c9 eb rfl HM.out.symm (Sl.of_own HO9.out) _ rfl (by omega) (Nat.zero_le _) ?_
  intro A10 c10 w10 ho10 hg10 hb10
  have hs10 : w10.cell? ⟨g, 2, none⟩ = some (.slice A4 bs.length c4) := (HX9.out.blk2 hg10).cell 2 rfl
  have hz10 : w10.frozen? ⟨g, 2, none⟩ = false := (HX9.out.blk2 hg10).frozen 2
  obtain ⟨b2, hbe⟩ : ∃ b2, b2 = bs ++ eb := ⟨_, rfl⟩
  have HLE := hid (show b2.length = bs.length + m by rw [hbe, List.length_append, ← HM.out])
  rw [← hbe] at ho10
  have HBE := hid hbe
  clear hbe
  have HRL10 := hid (HX9.out.by2 HLE.out ho10 hg10 hb10)
  clear ho10 hg10 hb10
  refine hK.out _ _ hs10 (fun hH2 => ?_)
  clear hK K hH1
  try simp only [Act.put, List.setIfInBounds_toArray, List.set_cons_zero, List.set_cons_succ]
  refine AnyJ.take (i := 8) (v := ?_) (T := [9, 10]) rfl (by kernel_rfl) (by kernel_rfl) (by kernel_rfl) (by kernel_rfl) (fun _ _ _ h => h) (Or.inl ⟨by rfl, ?_⟩) hH2 ?_
  rotate_left
  · (intro w hSw; (try dsimp only at hSw); go_simp; try (with_reducible rfl))
  try simp only [Act.put, List.getElem_toArray, List.getElem_cons_zero, List.getElem_cons_succ, List.setIfInBounds_toArray, List.set_cons_zero, List.set_cons_succ]
  refine AnyJ.take (i := 9) (v := ?_) (T := [10]) rfl (by kernel_rfl) (by kernel_rfl) (by kernel_rfl) (by kernel_rfl) (fun _ _ _ h => h) (Or.inl ⟨by rfl, ?_⟩) hH2 ?_
  rotate_left
  · (intro w hSw; (try dsimp only at hSw); go_simp; try (with_reducible rfl))
  try simp only [Act.put, List.getElem_toArray, List.getElem_cons_zero, List.getElem_cons_succ, List.setIfInBounds_toArray, List.set_cons_zero, List.set_cons_succ]
  refine AnyJ.last (by kernel_rfl) rfl (fun K hK => ?_)
  simp only [List.getElem_toArray, List.getElem_cons_zero, List.getElem_cons_succ]
  go_simp
  refine hK.out _ _ ?_
  clear hK K
  try simp only [Act.put, List.setIfInBounds_toArray, List.set_cons_zero, List.set_cons_succ]
  refine AnyJ.done (by kernel_rfl) ?_ _
  refine NoPanic.normal ?_
  obtain ⟨v11, hv11⟩ : ∃ v11, v11 = w10.setCell ⟨g, 2, none⟩ (.slice A10 (bs.length + m) c10) := ⟨_, rfl⟩
  have HV11 := hid hv11
  rw [← hv11] at HRL10
  clear hv11 hs10 hz10 hH2
  obtain ⟨F11, hX11, hR11⟩ := HRL10.out
  have HR11 := hid ((HR8.out.below HB9.out).trans hR11)
  have HX11 := hid hX11
  clear hX11 hR11 HRL10
  go_wp2_with fail
  simp only [← HV11.out]
  have HDB := hid (dbytes_any D v11.drew)
  refine wp_region_noPanic ?_
  refine AnyJ.start (S := (fun W => W.cell? ⟨g, 2, none⟩ = some (.slice A10 b2.length c10) ∧ W.cell? ⟨g, 3, none⟩ = some (.int .u64 D))) (J := 13) (by kernel_rfl) ⟨HX11.out.blk.cell 2 rfl, HX11.out.blk.cell 3 rfl⟩ (fun hH0 => ?_)
  refine AnyJ.take (i := 0) (v := ?_) (T := [11, 12, 13]) rfl (by kernel_rfl) (by kernel_rfl) (by kernel_rfl) (by kernel_rfl) (fun _ _ _ h => h) (Or.inl ⟨by rfl, ?_⟩) hH0 ?_
  rotate_left
  · (intro w hSw; (try dsimp only at hSw); go_simp; try (with_reducible rfl))
  try simp only [Act.put, List.getElem_toArray, List.getElem_cons_zero, List.setIfInBounds_toArray, List.set_cons_zero, List.set_cons_succ]
  refine AnyJ.take (i := 1) (v := ?_) (T := [2, 3, 4, 10, 13]) rfl (by kernel_rfl) (by kernel_rfl) (by kernel_rfl) (by kernel_rfl) (fun _ _ _ h => h) (Or.inl ⟨by rfl, ?_⟩) hH0 ?_
  rotate_left
  · (intro w hSw; (try dsimp only at hSw); go_simp; try (with_reducible rfl))
  try simp only [Act.put, List.getElem_toArray, List.getElem_cons_zero, List.getElem_cons_succ, List.setIfInBounds_toArray, List.set_cons_zero, List.set_cons_succ]
  refine AnyJ.take (i := 2) (v := ?_) (T := [3, 4, 10, 13]) rfl (by kernel_rfl) (by kernel_rfl) (by kernel_rfl) (by kernel_rfl) (fun _ _ _ h => h) (Or.inl ⟨by rfl, ?_⟩) hH0 ?_
  rotate_left
  · (intro w hSw; (try dsimp only at hSw); go_simp; try (with_reducible rfl))
  try simp only [Act.put, List.getElem_toArray, List.getElem_cons_zero, List.getElem_cons_succ, List.setIfInBounds_toArray, List.set_cons_zero, List.set_cons_succ]
  refine AnyJ.take (i := 3) (v := ?_) (T := [4, 10, 13]) rfl (by kernel_rfl) (by kernel_rfl) (by kernel_rfl) (by kernel_rfl) (fun _ _ _ h => h) (Or.inl ⟨by rfl, ?_⟩) hH0 ?_
  rotate_left
  · (intro w hSw; (try dsimp only at hSw); go_simp; try (with_reducible rfl))
  try simp only [Act.put, List.getElem_toArray, List.getElem_cons_zero, List.getElem_cons_succ, List.setIfInBounds_toArray, List.set_cons_zero, List.set_cons_succ]
  refine AnyJ.take (i := 4) (v := ?_) (T := [10, 13]) rfl (by kernel_rfl) (by kernel_rfl) (by kernel_rfl) (by kernel_rfl) (fun _ _ _ h => h) (Or.inl ⟨by rfl, ?_⟩) hH0 ?_
  rotate_left
  · (intro w hSw; (try dsimp only at hSw); go_simp; try (with_reducible rfl))
  try simp only [Act.put, List.getElem_toArray, List.getElem_cons_zero, List.getElem_cons_succ, List.setIfInBounds_toArray, List.set_cons_zero, List.set_cons_succ]
  refine AnyJ.take (i := 5) (v := ?_) (T := [6, 7, 8, 9, 10, 13]) rfl (by kernel_rfl) (by kernel_rfl) (by kernel_rfl) (by kernel_rfl) (fun _ _ _ h => h) (Or.inl ⟨by rfl, ?_⟩) hH0 ?_
  rotate_left
  · (intro w hSw; (try dsimp only at hSw); go_simp; try (with_reducible rfl))
  try simp only [Act.put, List.getElem_toArray, List.getElem_cons_zero, List.getElem_cons_succ, List.setIfInBounds_toArray, List.set_cons_zero, List.set_cons_succ]
  refine AnyJ.take (i := 6) (v := ?_) (T := [7, 8, 9, 10, 13]) rfl (by kernel_rfl) (by kernel_rfl) (by kernel_rfl) (by kernel_rfl) (fun _ _ _ h => h) (Or.inl ⟨by rfl, ?_⟩) hH0 ?_
  rotate_left
  · (intro w hSw; (try dsimp only at hSw); go_simp; try (with_reducible rfl))
  try simp only [Act.put, List.getElem_toArray, List.getElem_cons_zero, List.getElem_cons_succ, List.setIfInBounds_toArray, List.set_cons_zero, List.set_cons_succ]
  refine AnyJ.take (i := 7) (v := ?_) (T := [8, 9, 10, 13]) rfl (by kernel_rfl) (by kernel_rfl) (by kernel_rfl) (by kernel_rfl) (fun _ _ _ h => h) (Or.inl ⟨by rfl, ?_⟩) hH0 ?_
  rotate_left
  · (intro w hSw; (try dsimp only at hSw); go_simp; try (with_reducible rfl))
  try simp only [Act.put, List.getElem_toArray, List.getElem_cons_zero, List.getElem_cons_succ, List.setIfInBounds_toArray, List.set_cons_zero, List.set_cons_succ]
  refine AnyJ.take (i := 8) (v := ?_) (T := [9, 10, 13]) rfl (by kernel_rfl) (by kernel_rfl) (by kernel_rfl) (by kernel_rfl) (fun _ _ _ h => h) (Or.inl ⟨by rfl, ?_⟩) hH0 ?_
  rotate_left
  · (intro w hSw; (try dsimp only at hSw); go_simp; try (with_reducible rfl))
  try simp only [Act.put, List.getElem_toArray, List.getElem_cons_zero, List.getElem_cons_succ, List.setIfInBounds_toArray, List.set_cons_zero, List.set_cons_succ]
  refine AnyJ.one (i := 9) (by kernel_rfl) rfl (fun K hK => ?_)
  simp only [List.getElem_toArray, List.getElem_cons_zero, List.getElem_cons_succ]
  go_simp
  refine HDB.out.mono ?_
  rintro e w12 ⟨A12, c12, rfl, ho12, hb12⟩
  have hs12 := cell_go hH0.1 hb12
  have hd12 := cell_go hH0.2 hb12
  have HB12 := hid (undrew hb12)
  have HO12 := hid ho12
  have HX12 := hid (HX11.out.below HB12.out)
  clear ho12 hb12
  refine hK.out _ _ ⟨hs12, hd12⟩ (fun hH1 => ?_)
  clear hK K hH0
  try simp only [Act.put, List.setIfInBounds_toArray, List.set_cons_zero, List.set_cons_succ]
  refine AnyJ.one (i := 10) (by kernel_rfl) rfl (fun K hK => ?_)
  simp only [List.getElem_toArray, List.getElem_cons_zero, List.getElem_cons_succ]
  rw [if_pos (by rfl)]
  refine wpo_app8 (.tmp 61) (.tmp 66) rfl 0 A10 b2.length c10 b2 rfl HX12.out.r2 A12 w12.heap.size 8 c12 (leb D 8) rfl (leb_length _ _) (Sl.of_own HO12.out) _ rfl (by rw [HLE.out]; omega) (Nat.zero_le _) ?_
  intro A13 c13 w13 ho13 hg13 hb13
  have hs13 := HX12.out.blk2 hg13
  have hc13 : w13.cell? ⟨g, 2, none⟩ = some (.slice A10 b2.length c10) := hs13.cell 2 rfl
  have hd13 : w13.cell? ⟨g, 3, none⟩ = some (.int .u64 D) := hs13.cell 3 rfl
  have hz13 : w13.frozen? ⟨g, 2, none⟩ = false := hs13.frozen 2
  have HRL13 := hid (HX12.out.by2 (by rw [List.length_append, leb_length]) ho13 hg13 hb13)
  clear ho13 hg13 hb13 hs13
  refine hK.out _ _ ⟨hc13, hd13⟩ (fun hH2 => ?_)
  clear hK K hH1
  try simp only [Act.put, List.setIfInBounds_toArray, List.set_cons_zero, List.set_cons_succ]
  refine AnyJ.take (i := 11) (v := ?_) (T := [12, 13]) rfl (by kernel_rfl) (by kernel_rfl) (by kernel_rfl) (by kernel_rfl) (fun _ _ _ h => h) (Or.inl ⟨by rfl, ?_⟩) hH2 ?_
  rotate_left
  · (intro w hSw; (try dsimp only at hSw); go_simp; try (with_reducible rfl))
  try simp only [Act.put, List.getElem_toArray, List.getElem_cons_zero, List.getElem_cons_succ, List.setIfInBounds_toArray, List.set_cons_zero, List.set_cons_succ]
  refine AnyJ.take (i := 12) (v := ?_) (T := [13]) rfl (by kernel_rfl) (by kernel_rfl) (by kernel_rfl) (by kernel_rfl) (fun _ _ _ h => h) (Or.inl ⟨by rfl, ?_⟩) hH2 ?_
  rotate_left
  · (intro w hSw; (try dsimp only at hSw); go_simp; try (with_reducible rfl))
  try simp only [Act.put, List.getElem_toArray, List.getElem_cons_zero, List.getElem_cons_succ, List.setIfInBounds_toArray, List.set_cons_zero, List.set_cons_succ]
  refine AnyJ.last (by kernel_rfl) rfl (fun K hK => ?_)
  simp only [List.getElem_toArray, List.getElem_cons_zero, List.getElem_cons_succ]
  go_simp
  refine hK.out _ _ ?_
  clear hK K
  try simp only [Act.put, List.setIfInBounds_toArray, List.set_cons_zero, List.set_cons_succ]
  refine AnyJ.done (by kernel_rfl) ?_ _
  refine NoPanic.normal ?_
  obtain ⟨v14, hv14⟩ : ∃ v14, v14 = w13.setCell ⟨g, 2, none⟩ (.slice A13 (b2.length + 8) c13) := ⟨_, rfl⟩
  have HV14 := hid hv14
  rw [← hv14] at HRL13
  clear hv14 hc13 hd13 hz13 hH2
  go_wp2_with fail
  simp only [← HV14.out]
  obtain ⟨F14, hX14, hR14⟩ := HRL13.out
  have HR14 := hid ((HR11.out.below HB12.out).trans hR14)
  have hbs : b2 ++ leb D 8 = logB fStart (es ++ [(p, o, h, a, x)]) := by
    rw [logB_snoc, HBE.out, HBS.out, HEB.out, HDE.out, List.append_assoc]
    rfl
  rw [hbs] at hX14
  have HLF := hid (hX14.shut (fun _ => by rw [endD_snoc, HDE.out]; rfl) (fun e he => by
    rcases List.mem_append.1 he with h | h
    · exact HRR.out e h
    · simp at h; subst h; exact hr) (by have := HQ.out; simp; omega) hcap)
  clear hX14 hR14
  go_ret
  refine ⟨rfl, F14, HLF.out, ?_⟩
  have hR := (Run.of_below (F := F) HB4.out).trans HR14.out
  exact ⟨hR.turn, hR.sub⟩

set_option maxRecDepth 100000 in
set_option maxHeartbeats 2000000 in
theorem append_full (F : Nat → Prop) (g cap q : Nat) (es : List Ev) (mis : Int → Nat) (p o h a x : Nat) (w : World) (hl : LogAt w F g cap es mis q) (hr : Right (p, o, h, a, x)) (hq : q < 50000) (hc : cntE (p, o, h, a, x) = true) (hroom : ¬ recN es p < cap) :
    Calls Try.prog 14 #[.pointer (some ⟨g, 0, none⟩), evv p o h a x] w fun e w' => e = .returned (.int .i64 19) ∧ Below w.heap.size w w' := by
  have HENC := hid (encode_yes p o h a x (w.alloc (.cells #[.int .i64 (p : Int), .int .i64 (o : Int), .int .u64 (h : Int), .int .u64 (a : Int), .int .i64 (x : Int)] 36)) hr.1 hr.2.1 hr.2.2)
  have HX := hid (ev_new p o h a x w)
  have HB := hid (below_new w #[.int .i64 (p : Int), .int .i64 (o : Int), .int .u64 (h : Int), .int .u64 (a : Int), .int .i64 (x : Int)] 36)
  have HL := hid hl
  clear hl
  unfold evv at HENC ⊢
  go_enter Try.func14, Try.ntmps14
  go_wp2_with fail
  refine HENC.out.mono ?_
  rintro e w2 ⟨A2, c2, rfl, ho2, hb2⟩
  have HB2 := hid (below_go HB.out hb2)
  have HX2 := hid (ev_keep HX.out hb2)
  have HO2 := hid (own_base (base' := w.heap.size + 1) ho2 (by simp))
  clear hb2 ho2 HENC
  obtain ⟨⟨e0, e1, e2, e3, e4⟩, hg⟩ := HX2.out
  have HCN := hid (counts_any p o h a x w2)
  unfold evv at HCN
  go_wp2_with fail
  refine HCN.out.mono ?_
  rintro e w3 ⟨rfl, hb3⟩
  have HB3 := hid (below_go HB2.out hb3)
  have HX3 := hid (ev_keep HX2.out hb3)
  have HO3 := hid (own_below HO2.out hb3)
  have HL3 := hid (HL.out.below HB3.out)
  clear hb3
  have HFS := hid (show ∀ j, F j → j < w.heap.size by
    obtain ⟨_, _, _, _, _, _, _, hX, _⟩ := HL.out.open
    exact hX.fs)
  have HF0 := hid (show F g by
    obtain ⟨_, _, _, _, _, _, _, hX, _⟩ := HL.out.open
    exact hX.f0)
  have hcb : (decide ((o : Int) ≠ 32 ∧ (o : Int) ≠ 33)) = true := by
    have := hc
    unfold cntE at this
    simp at this ⊢
    omega
  have hwfp : (Lit.int .i64 (p : Int)).wf = true := by
    have h1 := hr.1
    unfold EvOK at h1
    simp [Lit.wf, IntKind.min, IntKind.max, IntKind.signed, IntKind.bits]
    omega
  have HRM := hid (room_any F g cap q es (recN es) mis p w3 HL3.out hwfp)
  rw [show (decide (recN es p < cap)) = false by simpa using hroom] at HRM
  rw [hcb]
  obtain ⟨⟨f0, f1, f2, f3, f4⟩, hg3⟩ := HX3.out
  clear e0 e1 e2 e3 e4 hg
  go_wp2_with fail
  refine HRM.out.mono ?_
  rintro e w4 ⟨rfl, hb4⟩
  have HB4 := hid (below_go HB3.out hb4)
  go_wp2
  go_ret
  exact ⟨rfl, HB4.out⟩

set_option maxRecDepth 100000 in
set_option maxHeartbeats 1000000 in
theorem append_bad (g : Nat) (p o x : Int) (h a : Int) (w : World) (hr : ¬ EvOK p o x) :
    Calls Try.prog 14 #[.pointer (some ⟨g, 0, none⟩), evv p o h a x] w fun e w' => e = .returned (.int .i64 1) ∧ Below w.heap.size w w' := by
  have HENC := hid (encode_no p o h a x (w.alloc (.cells #[.int .i64 p, .int .i64 o, .int .u64 h, .int .u64 a, .int .i64 x] 36)) hr)
  have HB := hid (below_new w #[.int .i64 p, .int .i64 o, .int .u64 h, .int .u64 a, .int .i64 x] 36)
  unfold evv at HENC ⊢
  go_enter Try.func14, Try.ntmps14
  go_wp2_with fail
  refine HENC.out.mono ?_
  rintro e w2 ⟨rfl, hb2⟩
  have HB2 := hid (below_go HB.out hb2)
  go_wp2
  go_ret
  exact ⟨rfl, HB2.out⟩
set_option maxRecDepth 100000 in
theorem append_nil (p o x : Int) (h a : Int) (w : World) :
    Calls Try.prog 14 #[.pointer none, evv p o h a x] w fun e w' => e = .returned (.int .i64 1) ∧ Below w.heap.size w w' := by
  unfold evv
  go_enter Try.func14, Try.ntmps14
  go_wp2
  go_ret
  exact ⟨rfl, below_new _ _ _⟩
/-- What Append answers, and the events behind it. -/
def apR (cap : Nat) (es : List Ev) (e : Ev) : Nat := if cntE e && !decide (recN es e.1 < cap) then 19 else 0
def apE (cap : Nat) (es : List Ev) (e : Ev) : List Ev := if cntE e && !decide (recN es e.1 < cap) then es else es ++ [e]
theorem append_any (F : Nat → Prop) (g cap q : Nat) (es : List Ev) (mis : Int → Nat) (p o h a x : Nat) (w : World) (hl : LogAt w F g cap es mis q) (hr : Right (p, o, h, a, x)) (hq : q < 50000) :
    Calls Try.prog 14 #[.pointer (some ⟨g, 0, none⟩), evv p o h a x] w fun e w' => e = .returned (.int .i64 (apR cap es (p, o, h, a, x))) ∧ Step w F g cap (apE cap es (p, o, h, a, x)) (recN (apE cap es (p, o, h, a, x))) mis (q + 1) w' := by
  unfold apR apE
  by_cases hc : cntE (p, o, h, a, x) = true
  · by_cases hroom : recN es p < cap
    · rw [if_neg (by simp [hc, hroom]), if_neg (by simp [hc, hroom])]
      exact append_ok F g cap q es mis p o h a x w hl hr hq hc hroom
    · rw [if_pos (by simp [hc, hroom]), if_pos (by simp [hc, hroom])]
      refine (append_full F g cap q es mis p o h a x w hl hr hq hc hroom).mono ?_
      rintro e w' ⟨rfl, hb⟩
      exact ⟨rfl, F, (hl.below hb).more (by omega), Turn.of hb, fun _ h => .inl h⟩
  · have hc' : cntE (p, o, h, a, x) = false := by simpa using hc
    rw [if_neg (by simp [hc']), if_neg (by simp [hc'])]
    exact append_free F g cap q es mis p o h a x w hl hr hq hc'
end Go.Proofs.Ytmhmaodnkifcaaa
