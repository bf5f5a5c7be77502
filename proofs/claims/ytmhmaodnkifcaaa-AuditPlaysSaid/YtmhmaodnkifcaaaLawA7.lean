/-
  AuditNone walked: which capacities New accepts, and what nil and zero logs do.
-/
import Derived.Test.YtmhmaodnkifcaaaDuo
import Derived.Test.YtmhmaodnkifcaaaAlike
import Derived.Test.YtmhmaodnkifcaaaLawA1
namespace Go.Proofs.Ytmhmaodnkifcaaa
open Go.RowKit
set_option linter.unusedSimpArgs false
set_option linter.unusedVariables false

theorem ref_new (cap : Nat) (w : World) : RefAt (w.alloc (.cells #[.int .i64 cap, .slice none 0 0, .slice none 0 0] 65)) (fun k => k = w.heap.size) w.heap.size cap [] [] :=
  ⟨none, 0, none, 0, heap_alloc_new w _, .inl rfl, .inl rfl, Nat.le_refl _, Nat.le_refl _, rfl, fun b h => by subst h; simp⟩
theorem log_zero (w : World) : LogAt (w.alloc (.cells #[.int .i64 0, .slice none 0 0, .slice none 0 0, .int .u64 0, .map none, .map none] 72)) (fun k => k = w.heap.size) w.heap.size 0 [] (fun _ => 0) 0 :=
  ⟨none, 0, none, 0, 0, none, none, heap_alloc_new w _, World.ownsRow_nil _ _ _ _, World.ownsRow_nil _ _ _ _, fun h => absurd rfl h, ⟨fun _ => Nat.zero_le _, fun _ => rfl⟩, ⟨fun _ => Nat.le_refl _, fun _ => rfl⟩, fun _ h => (by cases h), fun _ h => (by simp at h), Nat.le_refl _, Nat.zero_le _, rfl, fun _ h => (by cases h), fun _ h => (by cases h), fun _ h => (by cases h), fun _ h => (by cases h), fun b h => by subst h; simp⟩
set_option maxRecDepth 100000 in
set_option maxHeartbeats 4000000 in
theorem none_a (A : Option Addr) (n c : Nat) (zs : List Int) (cap : Nat) (nr : Nat) (z : Int) (w : World) (hcap : cap ≤ 65536) (hnr : nr < 256) (hr3 : nr % 3 < 2) (hz : ∀ z ∈ zs, 0 ≤ z ∧ z < 65536) (hn : zs.length = n) (hc : n ≤ c) (hs : Sl w w.heap.size A (nums .u16 zs)) (hzw : (Lit.int .i64 z).wf = true) :
    Calls Try.prog 8 #[.int .i64 cap, .int .u8 nr, .slice A n c, .int .i64 z] w fun e w' => e = .returned (.bool true) ∧ Below w.heap.size w w' := by
  have HO := hid (fun (w' : World) (h : Below w.heap.size w w') => of_any A n c 12 zs w' hz hn hc (hs.go h) (by omega))
  have HZW := hid hzw
  clear hz hn hc hs hzw
  obtain ⟨r, hr⟩ : ∃ r : Nat, r = nr % 3 := ⟨_, rfl⟩
  have hr1 : (nr : Int).tmod 3 = (r : Int) := by rw [hr]; rfl
  rw [← hr] at hr3
  have hrb : r < 3 := by omega
  have HN := hid (new_ok cap w hcap)
  clear hr
  have hci : (cap : Int) ≤ 65536 := by omega
  obtain ⟨c2, hc2⟩ : ∃ c2 : Nat, c2 = 65535 + r := ⟨_, rfl⟩
  have hri : (65535 : Int) + (r : Int) = (c2 : Int) := by omega
  have hc2a : 65535 ≤ c2 := by omega
  have hc2b : c2 ≤ 65536 := by omega
  clear hc2
  have hrl : ((r : Nat) : Int) < 2 := by omega
  go_enter Try.func8, Try.ntmps8
  go_wp2_with fail
  refine HN.out.mono ?_
  rintro e w1 ⟨g1, hg1, rfl, hL1, hb1⟩
  clear hL1
  have HB1 := hid hb1
  clear hb1 HN
  have HN := hid (new_ok c2 w1 (by omega))
  go_wp2_with fail
  refine HN.out.mono ?_
  rintro e w2 ⟨g2, hg2, rfl, hL2, hb2⟩
  clear hL2
  have HB2 := hid (below_go HB1.out hb2)
  clear hb2 HN
  have HO1 := hid (HO.out w2 HB2.out)
  go_wp2_with fail
  refine HO1.out.mono ?_
  rintro e w3 ⟨gt, N, rfl, hN, ht3, hb3⟩
  have HT3 := hid ht3
  have HB23 := hid hb3
  have HEV := hid (event_any _ _ gt N 0 w3 ht3 (by omega))
  clear ht3 hb3 HO1
  go_wp2_with fail
  refine HEV.out.mono ?_
  rintro e w4 ⟨p, o, h, a, y, i', rfl, ok, hp3, hh, ha, hi1, hi2, ht4, hg4⟩
  have HB24 := hid (made_below HB23.out HB23.out.size hg4 (Nat.le_refl _) HT3.out)
  have HB4 := hid (below_go HB2.out HB24.out)
  have HT4 := hid ht4
  have HRI := hid (show Right (p, o, h, a, y) from ⟨ok, hh, ha⟩)
  have HH4 := hid hg4.size
  clear ht4 hg4 HEV ok hp3 hh ha hi1 hi2
  obtain ⟨bx, hbx⟩ : ∃ bx, bx = w4.heap.size := ⟨_, rfl⟩
  obtain ⟨w5, hw5⟩ : ∃ w5, w5 = w4.alloc (.cells #[.int .i64 (p : Int), .int .i64 (o : Int), .int .u64 (h : Int), .int .u64 (a : Int), .int .i64 (y : Int)] 36) := ⟨_, rfl⟩
  have HW5 := hid hw5
  have HBX4 := hid hbx
  have HX5 := hid (show EvAt bx p o h a y w5 by rw [hbx, hw5]; exact ev_new p o h a y w4)
  have HB45 := hid (show Below w4.heap.size w4 w5 by rw [hw5]; exact below_new w4 _ _)
  have HMI := hid (miss_nil z w5)
  clear hw5 hbx
  unfold evv
  go_wp2_with fail
  simp only [← HW5.out, ← HBX4.out]
  refine HMI.out.mono ?_
  rintro e w6 ⟨rfl, rfl⟩
  have HAP := hid (append_nil p o y h a w6)
  unfold evv at HAP
  obtain ⟨⟨e0, e1, e2, e3, e4⟩, hg5⟩ := HX5.out
  go_wp2_with fail
  clear e0 e1 e2 e3 e4 hg5
  refine HAP.out.mono ?_
  rintro e w7 ⟨rfl, hb7⟩
  have HB57 := hid hb7
  have HAK := hid (alike_any none 0 [] (fun _ => 0) _ _ [] z _ (.inl ⟨rfl, rfl, rfl, rfl⟩) (ref_new 0 w7) rfl (by simp) HZW.out)
  clear hb7 HAP HMI HW5
  go_wp2_with fail
  refine HAK.out.mono ?_
  rintro e w8 ⟨rfl, hb8⟩
  have HB58 := hid (below_go HB57.out (below_go (below_new w7 _ _) hb8))
  clear hb8 HAK
  obtain ⟨x, hx⟩ : ∃ x, x = (w8.alloc (.cells #[.int .i64 0, .slice none 0 0, .slice none 0 0, .int .u64 0, .map none, .map none] 72)).alloc (.cells #[.int .i64 0, .slice none 0 0, .slice none 0 0] 65) := ⟨_, rfl⟩
  have HBX8 := hid (show Below w8.heap.size w8 x by rw [hx]; exact below_go (below_new w8 _ _) (below_new _ _ _))
  have HSX := hid (show x.heap.size = w8.heap.size + 2 by rw [hx]; simp)
  obtain ⟨g, hg⟩ : ∃ g, g = w8.heap.size := ⟨_, rfl⟩
  have HL0 := hid (show LogAt x (fun k => k = g) g 0 [] (fun _ => 0) 0 by rw [hx, hg]; exact (log_zero w8).below (below_new _ _ _))
  have HR0 := hid (show RefAt x (fun k => k = g + 1) (g + 1) 0 [] [] by have := ref_new 0 (w8.alloc (.cells #[.int .i64 0, .slice none 0 0, .slice none 0 0, .int .u64 0, .map none, .map none] 72)); rw [World.size_alloc, ← hg] at this; rw [hx]; exact this)
  have HG := hid hg
  have HXX := hid hx
  have HB5X := hid (below_go HB58.out HBX8.out)
  have HB4X := hid (below_go HB45.out HB5X.out)
  have HWX := hid (below_go HB4.out HB4X.out)
  have hs1 := HB45.out.size
  have hs2 := HB58.out.size
  have hs3 := HH4.out
  have hs4 : w8.heap.size + 2 ≤ x.heap.size := by have := HSX.out; omega
  have hs5 : bx < w6.heap.size := HX5.out.2
  have HDX := hid (show Duo x w2.heap.size w3.heap.size gt N g (g + 1) 0 [] (fun z => misN [] z) 0 [] [] i' (fun k => k = g) (fun k => k = g + 1) x from
    ⟨HL0.out, HR0.out, HT4.out.below HB4X.out, fun k e1 e2 => by omega, fun k e => .inl e, fun k e => .inl e, ⟨by omega, by omega, by omega, by omega, by omega⟩, Turn.refl _ _⟩)
  have HBM := hid (show ¬ (bx = g + 1) by omega)
  have HBX := hid (show ¬ (bx = g) by omega)
  have HD0 := hid (HDX.out.below ((Below.refl _ _).drew))
  have HY0 := hid (ev_keep (ev_keep HX5.out HB5X.out) (Below.refl _ _).drew)
  obtain ⟨rr, hrr⟩ : ∃ rr, rr = oR 0 [] (some (p, o, h, a, y)) := ⟨_, rfl⟩
  have HRR := hid hrr
  have HZ0 := hid (Nat.le_refl x.drew.heap.size)
  clear hg hx hrr
  go_wp2_with fail
  simp only [World.size_alloc, ← HG.out, ← HXX.out]
  refine wp_region_noPanic ?_
  refine wp_region_held_drew (S := (fun W => W.cell? ⟨bx, 0, none⟩ = some (.int .i64 (p : Int)) ∧ W.cell? ⟨bx, 1, none⟩ = some (.int .i64 (o : Int)) ∧ W.cell? ⟨bx, 2, none⟩ = some (.int .u64 (h : Int)) ∧ W.cell? ⟨bx, 3, none⟩ = some (.int .u64 (a : Int)) ∧ W.cell? ⟨bx, 4, none⟩ = some (.int .i64 (y : Int)))) (by kernel_rfl) HY0.out.1 (fun hH0 => ?_)
  refine wpAnyH_ready (rs := [0]) (by kernel_rfl) (by simp) ?_
  refine AllReadyH.cons rfl (fun K hK => ?_) AllReadyH.nil
  simp only [List.getElem_toArray, List.getElem_cons_zero]
  go_simp
  refine (awake_any _).mono ?_
  rintro e y1 ⟨rfl, hby⟩
  have HD1 := hid (HD0.out.below hby)
  have HX1 := hid (ev_keep HY0.out hby)
  have HS1 := hid (Nat.le_trans HZ0.out hby.size)
  clear hby
  refine hK.out _ _ HX1.out.1 (fun hH1 => ?_)
  clear hK K hH0
  try simp only [Act.put, List.setIfInBounds_toArray, List.set_cons_zero, List.set_cons_succ]
  refine wpAnyH_take (i := 1) (v := ?_) rfl (by kernel_rfl) (by kernel_rfl) (by kernel_rfl) (fun _ _ _ h => h) (Or.inl ⟨by kernel_rfl, ?_⟩) hH1 ?_
  rotate_left
  · (intro w hSw; (try dsimp only at hSw); go_simp; try (with_reducible rfl))
  try simp only [Act.put, List.getElem_toArray, List.getElem_cons_zero, List.getElem_cons_succ, List.setIfInBounds_toArray, List.set_cons_zero, List.set_cons_succ]
  refine wpAnyH_take (i := 2) (v := ?_) rfl (by kernel_rfl) (by kernel_rfl) (by kernel_rfl) (fun _ _ _ h => h) (Or.inl ⟨by kernel_rfl, ?_⟩) hH1 ?_
  rotate_left
  · (intro w hSw; (try dsimp only at hSw); go_simp; try (with_reducible rfl))
  try simp only [Act.put, List.getElem_toArray, List.getElem_cons_zero, List.getElem_cons_succ, List.setIfInBounds_toArray, List.set_cons_zero, List.set_cons_succ]
  refine wpAnyH_take (i := 3) (v := ?_) rfl (by kernel_rfl) (by kernel_rfl) (by kernel_rfl) (fun _ _ _ h => h) (Or.inl ⟨by kernel_rfl, ?_⟩) hH1 ?_
  rotate_left
  · (intro w hSw; (try dsimp only at hSw); go_simp; try (with_reducible rfl))
  try simp only [Act.put, List.getElem_toArray, List.getElem_cons_zero, List.getElem_cons_succ, List.setIfInBounds_toArray, List.set_cons_zero, List.set_cons_succ]
  refine wpAnyH_take (i := 5) (v := ?_) rfl (by kernel_rfl) (by kernel_rfl) (by kernel_rfl) (fun _ _ _ h => h) (Or.inl ⟨by kernel_rfl, ?_⟩) hH1 ?_
  rotate_left
  · (intro w hSw; (try dsimp only at hSw); go_simp; try (with_reducible rfl))
  try simp only [Act.put, List.getElem_toArray, List.getElem_cons_zero, List.getElem_cons_succ, List.setIfInBounds_toArray, List.set_cons_zero, List.set_cons_succ]
  refine wpAnyH_take (i := 6) (v := ?_) rfl (by kernel_rfl) (by kernel_rfl) (by kernel_rfl) (fun _ _ _ h => h) (Or.inl ⟨by kernel_rfl, ?_⟩) hH1 ?_
  rotate_left
  · (intro w hSw; (try dsimp only at hSw); go_simp; try (with_reducible rfl))
  try simp only [Act.put, List.getElem_toArray, List.getElem_cons_zero, List.getElem_cons_succ, List.setIfInBounds_toArray, List.set_cons_zero, List.set_cons_succ]
  refine wpAnyH_ready (rs := [4]) (by kernel_rfl) (by simp) ?_
  refine AllReadyH.cons rfl (fun K hK => ?_) AllReadyH.nil
  simp only [List.getElem_toArray, List.getElem_cons_zero, List.getElem_cons_succ]
  go_simp
  have HC := hid (append_ev _ g 0 0 [] _ (some (p, o, h, a, y)) p o h a y y1 HD1.out.log ⟨⟨rfl, rfl, rfl, rfl, rfl⟩, HRI.out⟩ (by decide))
  unfold evv at HC
  rw [← HRR.out] at HC
  refine HC.out.mono ?_
  rintro e y2 ⟨rfl, hst⟩
  obtain ⟨F2, hd2, ht2⟩ := HD1.out.step1 hst
  have HD2 := hid hd2
  have HX2 := hid (turn_ev ht2 HX1.out HBX.out)
  clear HC hst hd2 ht2
  refine hK.out _ _ HX2.out.1 (fun hH2 => ?_)
  clear hK K hH1
  try simp only [Act.put, List.setIfInBounds_toArray, List.set_cons_zero, List.set_cons_succ]
  refine wpAnyH_ready (rs := [7]) (by kernel_rfl) (by simp) ?_
  refine AllReadyH.cons rfl (fun K hK => ?_) AllReadyH.nil
  simp only [List.getElem_toArray, List.getElem_cons_zero, List.getElem_cons_succ]
  go_simp
  have HC := hid (rappend_ev _ (g + 1) 0 [] [] (some (p, o, h, a, y)) p o h a y y2 HD2.out.ref ⟨⟨rfl, rfl, rfl, rfl, rfl⟩, HRI.out⟩ (by simp))
  unfold evv at HC
  rw [← HRR.out] at HC
  refine HC.out.mono ?_
  rintro e y3 ⟨rfl, hst⟩
  obtain ⟨G2, hd3, ht3⟩ := HD2.out.step2 hst
  have HD3 := hid hd3
  have HX3 := hid (turn_ev ht3 HX2.out HBM.out)
  clear HC hst hd3 ht3
  refine hK.out _ _ HX3.out.1 (fun hH3 => ?_)
  clear hK K hH2
  try simp only [Act.put, List.setIfInBounds_toArray, List.set_cons_zero, List.set_cons_succ]
  refine wpAnyH_take (i := 8) (v := ?_) rfl (by kernel_rfl) (by kernel_rfl) (by kernel_rfl) (fun _ _ _ h => h) (Or.inl ⟨by kernel_rfl, ?_⟩) hH3 ?_
  rotate_left
  · (intro w hSw; (try dsimp only at hSw); go_simp; try (with_reducible rfl))
  try simp only [Act.put, List.getElem_toArray, List.getElem_cons_zero, List.getElem_cons_succ, List.setIfInBounds_toArray, List.set_cons_zero, List.set_cons_succ]
  refine wpAnyH_take (i := 9) (v := ?_) rfl (by kernel_rfl) (by kernel_rfl) (by kernel_rfl) (fun _ _ _ h => h) (Or.inl ⟨by kernel_rfl, ?_⟩) hH3 ?_
  rotate_left
  · (intro w hSw; (try dsimp only at hSw); go_simp; try (with_reducible rfl))
  try simp only [Act.put, List.getElem_toArray, List.getElem_cons_zero, List.getElem_cons_succ, List.setIfInBounds_toArray, List.set_cons_zero, List.set_cons_succ]
  refine wpAnyH_take (i := 10) (v := ?_) rfl (by kernel_rfl) (by kernel_rfl) (by kernel_rfl) (fun _ _ _ h => h) (Or.inl ⟨by kernel_rfl, ?_⟩) hH3 ?_
  rotate_left
  · (intro w hSw; (try dsimp only at hSw); go_simp; try (with_reducible rfl))
  try simp only [Act.put, List.getElem_toArray, List.getElem_cons_zero, List.getElem_cons_succ, List.setIfInBounds_toArray, List.set_cons_zero, List.set_cons_succ]
  refine wpAnyH_take (i := 11) (v := ?_) rfl (by kernel_rfl) (by kernel_rfl) (by kernel_rfl) (fun _ _ _ h => h) (Or.inl ⟨by kernel_rfl, ?_⟩) hH3 ?_
  rotate_left
  · (intro w hSw; (try dsimp only at hSw); go_simp; try (with_reducible rfl))
  try simp only [Act.put, List.getElem_toArray, List.getElem_cons_zero, List.getElem_cons_succ, List.setIfInBounds_toArray, List.set_cons_zero, List.set_cons_succ]
  refine wpAnyH_take (i := 12) (v := ?_) rfl (by kernel_rfl) (by kernel_rfl) (by kernel_rfl) (fun _ _ _ h => h) (Or.inl ⟨by kernel_rfl, ?_⟩) hH3 ?_
  rotate_left
  · (intro w hSw; (try dsimp only at hSw); go_simp; try (with_reducible rfl))
  try simp only [Act.put, List.getElem_toArray, List.getElem_cons_zero, List.getElem_cons_succ, List.setIfInBounds_toArray, List.set_cons_zero, List.set_cons_succ]
  refine wpAnyH_take (i := 13) (v := ?_) rfl (by kernel_rfl) (by kernel_rfl) (by kernel_rfl) (fun _ _ _ h => h) (Or.inl ⟨by kernel_rfl, ?_⟩) hH3 ?_
  rotate_left
  · (intro w hSw; (try dsimp only at hSw); go_simp; try (with_reducible rfl))
  try simp only [Act.put, List.getElem_toArray, List.getElem_cons_zero, List.getElem_cons_succ, List.setIfInBounds_toArray, List.set_cons_zero, List.set_cons_succ]
  refine wpAnyH_ready (rs := [14]) (by kernel_rfl) (by simp) ?_
  refine AllReadyH.cons rfl (fun K hK => ?_) AllReadyH.nil
  simp only [List.getElem_toArray, List.getElem_cons_zero, List.getElem_cons_succ]
  go_simp
  have HC := hid (alike_any (some ⟨g, 0, none⟩) 0 _ (fun z => misN [] z) _ (g + 1) [] z y3 (.inr ⟨g, F2, _, rfl, HD3.out.log, by decide⟩) HD3.out.ref rfl (by simp) HZW.out)
  refine HC.out.mono ?_
  rintro e y4 ⟨rfl, hby⟩
  have HX4 := hid (ev_keep HX3.out hby)
  have HD4 := hid (HD3.out.below hby)
  clear HC hby
  refine hK.out _ _ HX4.out.1 (fun hH4 => ?_)
  clear hK K hH3
  try simp only [Act.put, List.setIfInBounds_toArray, List.set_cons_zero, List.set_cons_succ]
  refine wpAnyH_take (i := 15) (v := ?_) rfl (by kernel_rfl) (by kernel_rfl) (by kernel_rfl) (fun _ _ _ h => h) (Or.inl ⟨by kernel_rfl, ?_⟩) hH4 ?_
  rotate_left
  · (intro w hSw; (try dsimp only at hSw); go_simp; try (with_reducible rfl))
  try simp only [Act.put, List.getElem_toArray, List.getElem_cons_zero, List.getElem_cons_succ, List.setIfInBounds_toArray, List.set_cons_zero, List.set_cons_succ]
  refine wpAnyH_take (i := 16) (v := ?_) rfl (by kernel_rfl) (by kernel_rfl) (by kernel_rfl) (fun _ _ _ h => h) (Or.inl ⟨by kernel_rfl, ?_⟩) hH4 ?_
  rotate_left
  · (intro w hSw; (try dsimp only at hSw); go_simp; try (with_reducible rfl))
  try simp only [Act.put, List.getElem_toArray, List.getElem_cons_zero, List.getElem_cons_succ, List.setIfInBounds_toArray, List.set_cons_zero, List.set_cons_succ]
  refine wpAnyH_done (by kernel_rfl) ?_ _
  refine NoPanic.normal ?_
  clear hH4
  go_wp2_with fail
  go_ret
  exact ⟨rfl, HWX.out.trans (HD4.out.turn.below HWX.out.size fun k hk e => by have := HG.out; have := HB4.out.size; have := HB2.out.size; omega)⟩
set_option maxRecDepth 100000 in
set_option maxHeartbeats 4000000 in
theorem none_b (A : Option Addr) (n c : Nat) (zs : List Int) (cap : Nat) (nr : Nat) (z : Int) (w : World) (hcap : cap ≤ 65536) (hnr : nr < 256) (hr3 : ¬ nr % 3 < 2) (hz : ∀ z ∈ zs, 0 ≤ z ∧ z < 65536) (hn : zs.length = n) (hc : n ≤ c) (hs : Sl w w.heap.size A (nums .u16 zs)) (hzw : (Lit.int .i64 z).wf = true) :
    Calls Try.prog 8 #[.int .i64 cap, .int .u8 nr, .slice A n c, .int .i64 z] w fun e w' => e = .returned (.bool true) ∧ Below w.heap.size w w' := by
  have HO := hid (fun (w' : World) (h : Below w.heap.size w w') => of_any A n c 12 zs w' hz hn hc (hs.go h) (by omega))
  have HZW := hid hzw
  clear hz hn hc hs hzw
  obtain ⟨r, hr⟩ : ∃ r : Nat, r = nr % 3 := ⟨_, rfl⟩
  have hr1 : (nr : Int).tmod 3 = (r : Int) := by rw [hr]; rfl
  rw [← hr] at hr3
  have hrb : r < 3 := by omega
  have HN := hid (new_ok cap w hcap)
  clear hr
  have hci : (cap : Int) ≤ 65536 := by omega
  have hre : r = 2 := by omega
  subst hre
  go_enter Try.func8, Try.ntmps8
  go_wp2_with fail
  refine HN.out.mono ?_
  rintro e w1 ⟨g1, hg1, rfl, hL1, hb1⟩
  clear hL1
  have HB1 := hid hb1
  clear hb1 HN
  have HN := hid (new_bad 65537 w1 (.inr (by decide)))
  go_wp2_with fail
  refine HN.out.mono ?_
  rintro e w2 ⟨rfl, hb2⟩
  have HB2 := hid (below_go HB1.out hb2)
  clear hb2 HN
  have HO1 := hid (HO.out w2 HB2.out)
  go_wp2_with fail
  refine HO1.out.mono ?_
  rintro e w3 ⟨gt, N, rfl, hN, ht3, hb3⟩
  have HT3 := hid ht3
  have HB23 := hid hb3
  have HEV := hid (event_any _ _ gt N 0 w3 ht3 (by omega))
  clear ht3 hb3 HO1
  go_wp2_with fail
  refine HEV.out.mono ?_
  rintro e w4 ⟨p, o, h, a, y, i', rfl, ok, hp3, hh, ha, hi1, hi2, ht4, hg4⟩
  have HB24 := hid (made_below HB23.out HB23.out.size hg4 (Nat.le_refl _) HT3.out)
  have HB4 := hid (below_go HB2.out HB24.out)
  have HT4 := hid ht4
  have HRI := hid (show Right (p, o, h, a, y) from ⟨ok, hh, ha⟩)
  have HH4 := hid hg4.size
  clear ht4 hg4 HEV ok hp3 hh ha hi1 hi2
  obtain ⟨bx, hbx⟩ : ∃ bx, bx = w4.heap.size := ⟨_, rfl⟩
  obtain ⟨w5, hw5⟩ : ∃ w5, w5 = w4.alloc (.cells #[.int .i64 (p : Int), .int .i64 (o : Int), .int .u64 (h : Int), .int .u64 (a : Int), .int .i64 (y : Int)] 36) := ⟨_, rfl⟩
  have HW5 := hid hw5
  have HBX4 := hid hbx
  have HX5 := hid (show EvAt bx p o h a y w5 by rw [hbx, hw5]; exact ev_new p o h a y w4)
  have HB45 := hid (show Below w4.heap.size w4 w5 by rw [hw5]; exact below_new w4 _ _)
  have HMI := hid (miss_nil z w5)
  clear hw5 hbx
  unfold evv
  go_wp2_with fail
  simp only [← HW5.out, ← HBX4.out]
  refine HMI.out.mono ?_
  rintro e w6 ⟨rfl, rfl⟩
  have HAP := hid (append_nil p o y h a w6)
  unfold evv at HAP
  obtain ⟨⟨e0, e1, e2, e3, e4⟩, hg5⟩ := HX5.out
  go_wp2_with fail
  clear e0 e1 e2 e3 e4 hg5
  refine HAP.out.mono ?_
  rintro e w7 ⟨rfl, hb7⟩
  have HB57 := hid hb7
  have HAK := hid (alike_any none 0 [] (fun _ => 0) _ _ [] z _ (.inl ⟨rfl, rfl, rfl, rfl⟩) (ref_new 0 w7) rfl (by simp) HZW.out)
  clear hb7 HAP HMI HW5
  go_wp2_with fail
  refine HAK.out.mono ?_
  rintro e w8 ⟨rfl, hb8⟩
  have HB58 := hid (below_go HB57.out (below_go (below_new w7 _ _) hb8))
  clear hb8 HAK
  obtain ⟨x, hx⟩ : ∃ x, x = (w8.alloc (.cells #[.int .i64 0, .slice none 0 0, .slice none 0 0, .int .u64 0, .map none, .map none] 72)).alloc (.cells #[.int .i64 0, .slice none 0 0, .slice none 0 0] 65) := ⟨_, rfl⟩
  have HBX8 := hid (show Below w8.heap.size w8 x by rw [hx]; exact below_go (below_new w8 _ _) (below_new _ _ _))
  have HSX := hid (show x.heap.size = w8.heap.size + 2 by rw [hx]; simp)
  obtain ⟨g, hg⟩ : ∃ g, g = w8.heap.size := ⟨_, rfl⟩
  have HL0 := hid (show LogAt x (fun k => k = g) g 0 [] (fun _ => 0) 0 by rw [hx, hg]; exact (log_zero w8).below (below_new _ _ _))
  have HR0 := hid (show RefAt x (fun k => k = g + 1) (g + 1) 0 [] [] by have := ref_new 0 (w8.alloc (.cells #[.int .i64 0, .slice none 0 0, .slice none 0 0, .int .u64 0, .map none, .map none] 72)); rw [World.size_alloc, ← hg] at this; rw [hx]; exact this)
  have HG := hid hg
  have HXX := hid hx
  have HB5X := hid (below_go HB58.out HBX8.out)
  have HB4X := hid (below_go HB45.out HB5X.out)
  have HWX := hid (below_go HB4.out HB4X.out)
  have hs1 := HB45.out.size
  have hs2 := HB58.out.size
  have hs3 := HH4.out
  have hs4 : w8.heap.size + 2 ≤ x.heap.size := by have := HSX.out; omega
  have hs5 : bx < w6.heap.size := HX5.out.2
  have HDX := hid (show Duo x w2.heap.size w3.heap.size gt N g (g + 1) 0 [] (fun z => misN [] z) 0 [] [] i' (fun k => k = g) (fun k => k = g + 1) x from
    ⟨HL0.out, HR0.out, HT4.out.below HB4X.out, fun k e1 e2 => by omega, fun k e => .inl e, fun k e => .inl e, ⟨by omega, by omega, by omega, by omega, by omega⟩, Turn.refl _ _⟩)
  have HBM := hid (show ¬ (bx = g + 1) by omega)
  have HBX := hid (show ¬ (bx = g) by omega)
  have HD0 := hid (HDX.out.below ((Below.refl _ _).drew))
  have HY0 := hid (ev_keep (ev_keep HX5.out HB5X.out) (Below.refl _ _).drew)
  obtain ⟨rr, hrr⟩ : ∃ rr, rr = oR 0 [] (some (p, o, h, a, y)) := ⟨_, rfl⟩
  have HRR := hid hrr
  have HZ0 := hid (Nat.le_refl x.drew.heap.size)
  clear hg hx hrr
  go_wp2_with fail
  simp only [World.size_alloc, ← HG.out, ← HXX.out]
  refine wp_region_noPanic ?_
  refine wp_region_held_drew (S := (fun W => W.cell? ⟨bx, 0, none⟩ = some (.int .i64 (p : Int)) ∧ W.cell? ⟨bx, 1, none⟩ = some (.int .i64 (o : Int)) ∧ W.cell? ⟨bx, 2, none⟩ = some (.int .u64 (h : Int)) ∧ W.cell? ⟨bx, 3, none⟩ = some (.int .u64 (a : Int)) ∧ W.cell? ⟨bx, 4, none⟩ = some (.int .i64 (y : Int)))) (by kernel_rfl) HY0.out.1 (fun hH0 => ?_)
  refine wpAnyH_ready (rs := [0]) (by kernel_rfl) (by simp) ?_
  refine AllReadyH.cons rfl (fun K hK => ?_) AllReadyH.nil
  simp only [List.getElem_toArray, List.getElem_cons_zero]
  go_simp
  refine (awake_any _).mono ?_
  rintro e y1 ⟨rfl, hby⟩
  have HD1 := hid (HD0.out.below hby)
  have HX1 := hid (ev_keep HY0.out hby)
  have HS1 := hid (Nat.le_trans HZ0.out hby.size)
  clear hby
  refine hK.out _ _ HX1.out.1 (fun hH1 => ?_)
  clear hK K hH0
  try simp only [Act.put, List.setIfInBounds_toArray, List.set_cons_zero, List.set_cons_succ]
  refine wpAnyH_take (i := 1) (v := ?_) rfl (by kernel_rfl) (by kernel_rfl) (by kernel_rfl) (fun _ _ _ h => h) (Or.inl ⟨by kernel_rfl, ?_⟩) hH1 ?_
  rotate_left
  · (intro w hSw; (try dsimp only at hSw); go_simp; try (with_reducible rfl))
  try simp only [Act.put, List.getElem_toArray, List.getElem_cons_zero, List.getElem_cons_succ, List.setIfInBounds_toArray, List.set_cons_zero, List.set_cons_succ]
  refine wpAnyH_take (i := 2) (v := ?_) rfl (by kernel_rfl) (by kernel_rfl) (by kernel_rfl) (fun _ _ _ h => h) (Or.inl ⟨by kernel_rfl, ?_⟩) hH1 ?_
  rotate_left
  · (intro w hSw; (try dsimp only at hSw); go_simp; try (with_reducible rfl))
  try simp only [Act.put, List.getElem_toArray, List.getElem_cons_zero, List.getElem_cons_succ, List.setIfInBounds_toArray, List.set_cons_zero, List.set_cons_succ]
  refine wpAnyH_take (i := 3) (v := ?_) rfl (by kernel_rfl) (by kernel_rfl) (by kernel_rfl) (fun _ _ _ h => h) (Or.inl ⟨by kernel_rfl, ?_⟩) hH1 ?_
  rotate_left
  · (intro w hSw; (try dsimp only at hSw); go_simp; try (with_reducible rfl))
  try simp only [Act.put, List.getElem_toArray, List.getElem_cons_zero, List.getElem_cons_succ, List.setIfInBounds_toArray, List.set_cons_zero, List.set_cons_succ]
  refine wpAnyH_take (i := 5) (v := ?_) rfl (by kernel_rfl) (by kernel_rfl) (by kernel_rfl) (fun _ _ _ h => h) (Or.inl ⟨by kernel_rfl, ?_⟩) hH1 ?_
  rotate_left
  · (intro w hSw; (try dsimp only at hSw); go_simp; try (with_reducible rfl))
  try simp only [Act.put, List.getElem_toArray, List.getElem_cons_zero, List.getElem_cons_succ, List.setIfInBounds_toArray, List.set_cons_zero, List.set_cons_succ]
  refine wpAnyH_take (i := 6) (v := ?_) rfl (by kernel_rfl) (by kernel_rfl) (by kernel_rfl) (fun _ _ _ h => h) (Or.inl ⟨by kernel_rfl, ?_⟩) hH1 ?_
  rotate_left
  · (intro w hSw; (try dsimp only at hSw); go_simp; try (with_reducible rfl))
  try simp only [Act.put, List.getElem_toArray, List.getElem_cons_zero, List.getElem_cons_succ, List.setIfInBounds_toArray, List.set_cons_zero, List.set_cons_succ]
  refine wpAnyH_ready (rs := [4]) (by kernel_rfl) (by simp) ?_
  refine AllReadyH.cons rfl (fun K hK => ?_) AllReadyH.nil
  simp only [List.getElem_toArray, List.getElem_cons_zero, List.getElem_cons_succ]
  go_simp
  have HC := hid (append_ev _ g 0 0 [] _ (some (p, o, h, a, y)) p o h a y y1 HD1.out.log ⟨⟨rfl, rfl, rfl, rfl, rfl⟩, HRI.out⟩ (by decide))
  unfold evv at HC
  rw [← HRR.out] at HC
  refine HC.out.mono ?_
  rintro e y2 ⟨rfl, hst⟩
  obtain ⟨F2, hd2, ht2⟩ := HD1.out.step1 hst
  have HD2 := hid hd2
  have HX2 := hid (turn_ev ht2 HX1.out HBX.out)
  clear HC hst hd2 ht2
  refine hK.out _ _ HX2.out.1 (fun hH2 => ?_)
  clear hK K hH1
  try simp only [Act.put, List.setIfInBounds_toArray, List.set_cons_zero, List.set_cons_succ]
  refine wpAnyH_ready (rs := [7]) (by kernel_rfl) (by simp) ?_
  refine AllReadyH.cons rfl (fun K hK => ?_) AllReadyH.nil
  simp only [List.getElem_toArray, List.getElem_cons_zero, List.getElem_cons_succ]
  go_simp
  have HC := hid (rappend_ev _ (g + 1) 0 [] [] (some (p, o, h, a, y)) p o h a y y2 HD2.out.ref ⟨⟨rfl, rfl, rfl, rfl, rfl⟩, HRI.out⟩ (by simp))
  unfold evv at HC
  rw [← HRR.out] at HC
  refine HC.out.mono ?_
  rintro e y3 ⟨rfl, hst⟩
  obtain ⟨G2, hd3, ht3⟩ := HD2.out.step2 hst
  have HD3 := hid hd3
  have HX3 := hid (turn_ev ht3 HX2.out HBM.out)
  clear HC hst hd3 ht3
  refine hK.out _ _ HX3.out.1 (fun hH3 => ?_)
  clear hK K hH2
  try simp only [Act.put, List.setIfInBounds_toArray, List.set_cons_zero, List.set_cons_succ]
  refine wpAnyH_take (i := 8) (v := ?_) rfl (by kernel_rfl) (by kernel_rfl) (by kernel_rfl) (fun _ _ _ h => h) (Or.inl ⟨by kernel_rfl, ?_⟩) hH3 ?_
  rotate_left
  · (intro w hSw; (try dsimp only at hSw); go_simp; try (with_reducible rfl))
  try simp only [Act.put, List.getElem_toArray, List.getElem_cons_zero, List.getElem_cons_succ, List.setIfInBounds_toArray, List.set_cons_zero, List.set_cons_succ]
  refine wpAnyH_take (i := 9) (v := ?_) rfl (by kernel_rfl) (by kernel_rfl) (by kernel_rfl) (fun _ _ _ h => h) (Or.inl ⟨by kernel_rfl, ?_⟩) hH3 ?_
  rotate_left
  · (intro w hSw; (try dsimp only at hSw); go_simp; try (with_reducible rfl))
  try simp only [Act.put, List.getElem_toArray, List.getElem_cons_zero, List.getElem_cons_succ, List.setIfInBounds_toArray, List.set_cons_zero, List.set_cons_succ]
  refine wpAnyH_take (i := 10) (v := ?_) rfl (by kernel_rfl) (by kernel_rfl) (by kernel_rfl) (fun _ _ _ h => h) (Or.inl ⟨by kernel_rfl, ?_⟩) hH3 ?_
  rotate_left
  · (intro w hSw; (try dsimp only at hSw); go_simp; try (with_reducible rfl))
  try simp only [Act.put, List.getElem_toArray, List.getElem_cons_zero, List.getElem_cons_succ, List.setIfInBounds_toArray, List.set_cons_zero, List.set_cons_succ]
  refine wpAnyH_take (i := 11) (v := ?_) rfl (by kernel_rfl) (by kernel_rfl) (by kernel_rfl) (fun _ _ _ h => h) (Or.inl ⟨by kernel_rfl, ?_⟩) hH3 ?_
  rotate_left
  · (intro w hSw; (try dsimp only at hSw); go_simp; try (with_reducible rfl))
  try simp only [Act.put, List.getElem_toArray, List.getElem_cons_zero, List.getElem_cons_succ, List.setIfInBounds_toArray, List.set_cons_zero, List.set_cons_succ]
  refine wpAnyH_take (i := 12) (v := ?_) rfl (by kernel_rfl) (by kernel_rfl) (by kernel_rfl) (fun _ _ _ h => h) (Or.inl ⟨by kernel_rfl, ?_⟩) hH3 ?_
  rotate_left
  · (intro w hSw; (try dsimp only at hSw); go_simp; try (with_reducible rfl))
  try simp only [Act.put, List.getElem_toArray, List.getElem_cons_zero, List.getElem_cons_succ, List.setIfInBounds_toArray, List.set_cons_zero, List.set_cons_succ]
  refine wpAnyH_take (i := 13) (v := ?_) rfl (by kernel_rfl) (by kernel_rfl) (by kernel_rfl) (fun _ _ _ h => h) (Or.inl ⟨by kernel_rfl, ?_⟩) hH3 ?_
  rotate_left
  · (intro w hSw; (try dsimp only at hSw); go_simp; try (with_reducible rfl))
  try simp only [Act.put, List.getElem_toArray, List.getElem_cons_zero, List.getElem_cons_succ, List.setIfInBounds_toArray, List.set_cons_zero, List.set_cons_succ]
  refine wpAnyH_ready (rs := [14]) (by kernel_rfl) (by simp) ?_
  refine AllReadyH.cons rfl (fun K hK => ?_) AllReadyH.nil
  simp only [List.getElem_toArray, List.getElem_cons_zero, List.getElem_cons_succ]
  go_simp
  have HC := hid (alike_any (some ⟨g, 0, none⟩) 0 _ (fun z => misN [] z) _ (g + 1) [] z y3 (.inr ⟨g, F2, _, rfl, HD3.out.log, by decide⟩) HD3.out.ref rfl (by simp) HZW.out)
  refine HC.out.mono ?_
  rintro e y4 ⟨rfl, hby⟩
  have HX4 := hid (ev_keep HX3.out hby)
  have HD4 := hid (HD3.out.below hby)
  clear HC hby
  refine hK.out _ _ HX4.out.1 (fun hH4 => ?_)
  clear hK K hH3
  try simp only [Act.put, List.setIfInBounds_toArray, List.set_cons_zero, List.set_cons_succ]
  refine wpAnyH_take (i := 15) (v := ?_) rfl (by kernel_rfl) (by kernel_rfl) (by kernel_rfl) (fun _ _ _ h => h) (Or.inl ⟨by kernel_rfl, ?_⟩) hH4 ?_
  rotate_left
  · (intro w hSw; (try dsimp only at hSw); go_simp; try (with_reducible rfl))
  try simp only [Act.put, List.getElem_toArray, List.getElem_cons_zero, List.getElem_cons_succ, List.setIfInBounds_toArray, List.set_cons_zero, List.set_cons_succ]
  refine wpAnyH_take (i := 16) (v := ?_) rfl (by kernel_rfl) (by kernel_rfl) (by kernel_rfl) (fun _ _ _ h => h) (Or.inl ⟨by kernel_rfl, ?_⟩) hH4 ?_
  rotate_left
  · (intro w hSw; (try dsimp only at hSw); go_simp; try (with_reducible rfl))
  try simp only [Act.put, List.getElem_toArray, List.getElem_cons_zero, List.getElem_cons_succ, List.setIfInBounds_toArray, List.set_cons_zero, List.set_cons_succ]
  refine wpAnyH_done (by kernel_rfl) ?_ _
  refine NoPanic.normal ?_
  clear hH4
  go_wp2_with fail
  go_ret
  exact ⟨rfl, HWX.out.trans (HD4.out.turn.below HWX.out.size fun k hk e => by have := HG.out; have := HB4.out.size; have := HB2.out.size; omega)⟩
set_option maxRecDepth 100000 in
set_option maxHeartbeats 4000000 in
theorem none_c (A : Option Addr) (n c : Nat) (zs : List Int) (cap : Int) (nr : Nat) (z : Int) (w : World) (hcap : cap < 0) (hnr : nr < 256) (hr3 : nr % 3 < 2) (hz : ∀ z ∈ zs, 0 ≤ z ∧ z < 65536) (hn : zs.length = n) (hc : n ≤ c) (hs : Sl w w.heap.size A (nums .u16 zs)) (hzw : (Lit.int .i64 z).wf = true) :
    Calls Try.prog 8 #[.int .i64 cap, .int .u8 nr, .slice A n c, .int .i64 z] w fun e w' => e = .returned (.bool true) ∧ Below w.heap.size w w' := by
  have HO := hid (fun (w' : World) (h : Below w.heap.size w w') => of_any A n c 12 zs w' hz hn hc (hs.go h) (by omega))
  have HZW := hid hzw
  clear hz hn hc hs hzw
  obtain ⟨r, hr⟩ : ∃ r : Nat, r = nr % 3 := ⟨_, rfl⟩
  have hr1 : (nr : Int).tmod 3 = (r : Int) := by rw [hr]; rfl
  rw [← hr] at hr3
  have hrb : r < 3 := by omega
  have HN := hid (new_bad cap w (.inl hcap))
  clear hr
  have hci : ¬ (0 ≤ cap) := by omega
  obtain ⟨c2, hc2⟩ : ∃ c2 : Nat, c2 = 65535 + r := ⟨_, rfl⟩
  have hri : (65535 : Int) + (r : Int) = (c2 : Int) := by omega
  have hc2a : 65535 ≤ c2 := by omega
  have hc2b : c2 ≤ 65536 := by omega
  clear hc2
  have hrl : ((r : Nat) : Int) < 2 := by omega
  go_enter Try.func8, Try.ntmps8
  go_wp2_with fail
  refine HN.out.mono ?_
  rintro e w1 ⟨rfl, hb1⟩
  have HB1 := hid hb1
  clear hb1 HN
  have HN := hid (new_ok c2 w1 (by omega))
  go_wp2_with fail
  refine HN.out.mono ?_
  rintro e w2 ⟨g2, hg2, rfl, hL2, hb2⟩
  clear hL2
  have HB2 := hid (below_go HB1.out hb2)
  clear hb2 HN
  have HO1 := hid (HO.out w2 HB2.out)
  go_wp2_with fail
  refine HO1.out.mono ?_
  rintro e w3 ⟨gt, N, rfl, hN, ht3, hb3⟩
  have HT3 := hid ht3
  have HB23 := hid hb3
  have HEV := hid (event_any _ _ gt N 0 w3 ht3 (by omega))
  clear ht3 hb3 HO1
  go_wp2_with fail
  refine HEV.out.mono ?_
  rintro e w4 ⟨p, o, h, a, y, i', rfl, ok, hp3, hh, ha, hi1, hi2, ht4, hg4⟩
  have HB24 := hid (made_below HB23.out HB23.out.size hg4 (Nat.le_refl _) HT3.out)
  have HB4 := hid (below_go HB2.out HB24.out)
  have HT4 := hid ht4
  have HRI := hid (show Right (p, o, h, a, y) from ⟨ok, hh, ha⟩)
  have HH4 := hid hg4.size
  clear ht4 hg4 HEV ok hp3 hh ha hi1 hi2
  obtain ⟨bx, hbx⟩ : ∃ bx, bx = w4.heap.size := ⟨_, rfl⟩
  obtain ⟨w5, hw5⟩ : ∃ w5, w5 = w4.alloc (.cells #[.int .i64 (p : Int), .int .i64 (o : Int), .int .u64 (h : Int), .int .u64 (a : Int), .int .i64 (y : Int)] 36) := ⟨_, rfl⟩
  have HW5 := hid hw5
  have HBX4 := hid hbx
  have HX5 := hid (show EvAt bx p o h a y w5 by rw [hbx, hw5]; exact ev_new p o h a y w4)
  have HB45 := hid (show Below w4.heap.size w4 w5 by rw [hw5]; exact below_new w4 _ _)
  have HMI := hid (miss_nil z w5)
  clear hw5 hbx
  unfold evv
  go_wp2_with fail
  simp only [← HW5.out, ← HBX4.out]
  refine HMI.out.mono ?_
  rintro e w6 ⟨rfl, rfl⟩
  have HAP := hid (append_nil p o y h a w6)
  unfold evv at HAP
  obtain ⟨⟨e0, e1, e2, e3, e4⟩, hg5⟩ := HX5.out
  go_wp2_with fail
  clear e0 e1 e2 e3 e4 hg5
  refine HAP.out.mono ?_
  rintro e w7 ⟨rfl, hb7⟩
  have HB57 := hid hb7
  have HAK := hid (alike_any none 0 [] (fun _ => 0) _ _ [] z _ (.inl ⟨rfl, rfl, rfl, rfl⟩) (ref_new 0 w7) rfl (by simp) HZW.out)
  clear hb7 HAP HMI HW5
  go_wp2_with fail
  refine HAK.out.mono ?_
  rintro e w8 ⟨rfl, hb8⟩
  have HB58 := hid (below_go HB57.out (below_go (below_new w7 _ _) hb8))
  clear hb8 HAK
  obtain ⟨x, hx⟩ : ∃ x, x = (w8.alloc (.cells #[.int .i64 0, .slice none 0 0, .slice none 0 0, .int .u64 0, .map none, .map none] 72)).alloc (.cells #[.int .i64 0, .slice none 0 0, .slice none 0 0] 65) := ⟨_, rfl⟩
  have HBX8 := hid (show Below w8.heap.size w8 x by rw [hx]; exact below_go (below_new w8 _ _) (below_new _ _ _))
  have HSX := hid (show x.heap.size = w8.heap.size + 2 by rw [hx]; simp)
  obtain ⟨g, hg⟩ : ∃ g, g = w8.heap.size := ⟨_, rfl⟩
  have HL0 := hid (show LogAt x (fun k => k = g) g 0 [] (fun _ => 0) 0 by rw [hx, hg]; exact (log_zero w8).below (below_new _ _ _))
  have HR0 := hid (show RefAt x (fun k => k = g + 1) (g + 1) 0 [] [] by have := ref_new 0 (w8.alloc (.cells #[.int .i64 0, .slice none 0 0, .slice none 0 0, .int .u64 0, .map none, .map none] 72)); rw [World.size_alloc, ← hg] at this; rw [hx]; exact this)
  have HG := hid hg
  have HXX := hid hx
  have HB5X := hid (below_go HB58.out HBX8.out)
  have HB4X := hid (below_go HB45.out HB5X.out)
  have HWX := hid (below_go HB4.out HB4X.out)
  have hs1 := HB45.out.size
  have hs2 := HB58.out.size
  have hs3 := HH4.out
  have hs4 : w8.heap.size + 2 ≤ x.heap.size := by have := HSX.out; omega
  have hs5 : bx < w6.heap.size := HX5.out.2
  have HDX := hid (show Duo x w2.heap.size w3.heap.size gt N g (g + 1) 0 [] (fun z => misN [] z) 0 [] [] i' (fun k => k = g) (fun k => k = g + 1) x from
    ⟨HL0.out, HR0.out, HT4.out.below HB4X.out, fun k e1 e2 => by omega, fun k e => .inl e, fun k e => .inl e, ⟨by omega, by omega, by omega, by omega, by omega⟩, Turn.refl _ _⟩)
  have HBM := hid (show ¬ (bx = g + 1) by omega)
  have HBX := hid (show ¬ (bx = g) by omega)
  have HD0 := hid (HDX.out.below ((Below.refl _ _).drew))
  have HY0 := hid (ev_keep (ev_keep HX5.out HB5X.out) (Below.refl _ _).drew)
  obtain ⟨rr, hrr⟩ : ∃ rr, rr = oR 0 [] (some (p, o, h, a, y)) := ⟨_, rfl⟩
  have HRR := hid hrr
  have HZ0 := hid (Nat.le_refl x.drew.heap.size)
  clear hg hx hrr
  go_wp2_with fail
  simp only [World.size_alloc, ← HG.out, ← HXX.out]
  refine wp_region_noPanic ?_
  refine wp_region_held_drew (S := (fun W => W.cell? ⟨bx, 0, none⟩ = some (.int .i64 (p : Int)) ∧ W.cell? ⟨bx, 1, none⟩ = some (.int .i64 (o : Int)) ∧ W.cell? ⟨bx, 2, none⟩ = some (.int .u64 (h : Int)) ∧ W.cell? ⟨bx, 3, none⟩ = some (.int .u64 (a : Int)) ∧ W.cell? ⟨bx, 4, none⟩ = some (.int .i64 (y : Int)))) (by kernel_rfl) HY0.out.1 (fun hH0 => ?_)
  refine wpAnyH_ready (rs := [0]) (by kernel_rfl) (by simp) ?_
  refine AllReadyH.cons rfl (fun K hK => ?_) AllReadyH.nil
  simp only [List.getElem_toArray, List.getElem_cons_zero]
  go_simp
  refine (awake_any _).mono ?_
  rintro e y1 ⟨rfl, hby⟩
  have HD1 := hid (HD0.out.below hby)
  have HX1 := hid (ev_keep HY0.out hby)
  have HS1 := hid (Nat.le_trans HZ0.out hby.size)
  clear hby
  refine hK.out _ _ HX1.out.1 (fun hH1 => ?_)
  clear hK K hH0
  try simp only [Act.put, List.setIfInBounds_toArray, List.set_cons_zero, List.set_cons_succ]
  refine wpAnyH_take (i := 1) (v := ?_) rfl (by kernel_rfl) (by kernel_rfl) (by kernel_rfl) (fun _ _ _ h => h) (Or.inl ⟨by kernel_rfl, ?_⟩) hH1 ?_
  rotate_left
  · (intro w hSw; (try dsimp only at hSw); go_simp; try (with_reducible rfl))
  try simp only [Act.put, List.getElem_toArray, List.getElem_cons_zero, List.getElem_cons_succ, List.setIfInBounds_toArray, List.set_cons_zero, List.set_cons_succ]
  refine wpAnyH_take (i := 2) (v := ?_) rfl (by kernel_rfl) (by kernel_rfl) (by kernel_rfl) (fun _ _ _ h => h) (Or.inl ⟨by kernel_rfl, ?_⟩) hH1 ?_
  rotate_left
  · (intro w hSw; (try dsimp only at hSw); go_simp; try (with_reducible rfl))
  try simp only [Act.put, List.getElem_toArray, List.getElem_cons_zero, List.getElem_cons_succ, List.setIfInBounds_toArray, List.set_cons_zero, List.set_cons_succ]
  refine wpAnyH_take (i := 3) (v := ?_) rfl (by kernel_rfl) (by kernel_rfl) (by kernel_rfl) (fun _ _ _ h => h) (Or.inl ⟨by kernel_rfl, ?_⟩) hH1 ?_
  rotate_left
  · (intro w hSw; (try dsimp only at hSw); go_simp; try (with_reducible rfl))
  try simp only [Act.put, List.getElem_toArray, List.getElem_cons_zero, List.getElem_cons_succ, List.setIfInBounds_toArray, List.set_cons_zero, List.set_cons_succ]
  refine wpAnyH_take (i := 5) (v := ?_) rfl (by kernel_rfl) (by kernel_rfl) (by kernel_rfl) (fun _ _ _ h => h) (Or.inl ⟨by kernel_rfl, ?_⟩) hH1 ?_
  rotate_left
  · (intro w hSw; (try dsimp only at hSw); go_simp; try (with_reducible rfl))
  try simp only [Act.put, List.getElem_toArray, List.getElem_cons_zero, List.getElem_cons_succ, List.setIfInBounds_toArray, List.set_cons_zero, List.set_cons_succ]
  refine wpAnyH_take (i := 6) (v := ?_) rfl (by kernel_rfl) (by kernel_rfl) (by kernel_rfl) (fun _ _ _ h => h) (Or.inl ⟨by kernel_rfl, ?_⟩) hH1 ?_
  rotate_left
  · (intro w hSw; (try dsimp only at hSw); go_simp; try (with_reducible rfl))
  try simp only [Act.put, List.getElem_toArray, List.getElem_cons_zero, List.getElem_cons_succ, List.setIfInBounds_toArray, List.set_cons_zero, List.set_cons_succ]
  refine wpAnyH_ready (rs := [4]) (by kernel_rfl) (by simp) ?_
  refine AllReadyH.cons rfl (fun K hK => ?_) AllReadyH.nil
  simp only [List.getElem_toArray, List.getElem_cons_zero, List.getElem_cons_succ]
  go_simp
  have HC := hid (append_ev _ g 0 0 [] _ (some (p, o, h, a, y)) p o h a y y1 HD1.out.log ⟨⟨rfl, rfl, rfl, rfl, rfl⟩, HRI.out⟩ (by decide))
  unfold evv at HC
  rw [← HRR.out] at HC
  refine HC.out.mono ?_
  rintro e y2 ⟨rfl, hst⟩
  obtain ⟨F2, hd2, ht2⟩ := HD1.out.step1 hst
  have HD2 := hid hd2
  have HX2 := hid (turn_ev ht2 HX1.out HBX.out)
  clear HC hst hd2 ht2
  refine hK.out _ _ HX2.out.1 (fun hH2 => ?_)
  clear hK K hH1
  try simp only [Act.put, List.setIfInBounds_toArray, List.set_cons_zero, List.set_cons_succ]
  refine wpAnyH_ready (rs := [7]) (by kernel_rfl) (by simp) ?_
  refine AllReadyH.cons rfl (fun K hK => ?_) AllReadyH.nil
  simp only [List.getElem_toArray, List.getElem_cons_zero, List.getElem_cons_succ]
  go_simp
  have HC := hid (rappend_ev _ (g + 1) 0 [] [] (some (p, o, h, a, y)) p o h a y y2 HD2.out.ref ⟨⟨rfl, rfl, rfl, rfl, rfl⟩, HRI.out⟩ (by simp))
  unfold evv at HC
  rw [← HRR.out] at HC
  refine HC.out.mono ?_
  rintro e y3 ⟨rfl, hst⟩
  obtain ⟨G2, hd3, ht3⟩ := HD2.out.step2 hst
  have HD3 := hid hd3
  have HX3 := hid (turn_ev ht3 HX2.out HBM.out)
  clear HC hst hd3 ht3
  refine hK.out _ _ HX3.out.1 (fun hH3 => ?_)
  clear hK K hH2
  try simp only [Act.put, List.setIfInBounds_toArray, List.set_cons_zero, List.set_cons_succ]
  refine wpAnyH_take (i := 8) (v := ?_) rfl (by kernel_rfl) (by kernel_rfl) (by kernel_rfl) (fun _ _ _ h => h) (Or.inl ⟨by kernel_rfl, ?_⟩) hH3 ?_
  rotate_left
  · (intro w hSw; (try dsimp only at hSw); go_simp; try (with_reducible rfl))
  try simp only [Act.put, List.getElem_toArray, List.getElem_cons_zero, List.getElem_cons_succ, List.setIfInBounds_toArray, List.set_cons_zero, List.set_cons_succ]
  refine wpAnyH_take (i := 9) (v := ?_) rfl (by kernel_rfl) (by kernel_rfl) (by kernel_rfl) (fun _ _ _ h => h) (Or.inl ⟨by kernel_rfl, ?_⟩) hH3 ?_
  rotate_left
  · (intro w hSw; (try dsimp only at hSw); go_simp; try (with_reducible rfl))
  try simp only [Act.put, List.getElem_toArray, List.getElem_cons_zero, List.getElem_cons_succ, List.setIfInBounds_toArray, List.set_cons_zero, List.set_cons_succ]
  refine wpAnyH_take (i := 10) (v := ?_) rfl (by kernel_rfl) (by kernel_rfl) (by kernel_rfl) (fun _ _ _ h => h) (Or.inl ⟨by kernel_rfl, ?_⟩) hH3 ?_
  rotate_left
  · (intro w hSw; (try dsimp only at hSw); go_simp; try (with_reducible rfl))
  try simp only [Act.put, List.getElem_toArray, List.getElem_cons_zero, List.getElem_cons_succ, List.setIfInBounds_toArray, List.set_cons_zero, List.set_cons_succ]
  refine wpAnyH_take (i := 11) (v := ?_) rfl (by kernel_rfl) (by kernel_rfl) (by kernel_rfl) (fun _ _ _ h => h) (Or.inl ⟨by kernel_rfl, ?_⟩) hH3 ?_
  rotate_left
  · (intro w hSw; (try dsimp only at hSw); go_simp; try (with_reducible rfl))
  try simp only [Act.put, List.getElem_toArray, List.getElem_cons_zero, List.getElem_cons_succ, List.setIfInBounds_toArray, List.set_cons_zero, List.set_cons_succ]
  refine wpAnyH_take (i := 12) (v := ?_) rfl (by kernel_rfl) (by kernel_rfl) (by kernel_rfl) (fun _ _ _ h => h) (Or.inl ⟨by kernel_rfl, ?_⟩) hH3 ?_
  rotate_left
  · (intro w hSw; (try dsimp only at hSw); go_simp; try (with_reducible rfl))
  try simp only [Act.put, List.getElem_toArray, List.getElem_cons_zero, List.getElem_cons_succ, List.setIfInBounds_toArray, List.set_cons_zero, List.set_cons_succ]
  refine wpAnyH_take (i := 13) (v := ?_) rfl (by kernel_rfl) (by kernel_rfl) (by kernel_rfl) (fun _ _ _ h => h) (Or.inl ⟨by kernel_rfl, ?_⟩) hH3 ?_
  rotate_left
  · (intro w hSw; (try dsimp only at hSw); go_simp; try (with_reducible rfl))
  try simp only [Act.put, List.getElem_toArray, List.getElem_cons_zero, List.getElem_cons_succ, List.setIfInBounds_toArray, List.set_cons_zero, List.set_cons_succ]
  refine wpAnyH_ready (rs := [14]) (by kernel_rfl) (by simp) ?_
  refine AllReadyH.cons rfl (fun K hK => ?_) AllReadyH.nil
  simp only [List.getElem_toArray, List.getElem_cons_zero, List.getElem_cons_succ]
  go_simp
  have HC := hid (alike_any (some ⟨g, 0, none⟩) 0 _ (fun z => misN [] z) _ (g + 1) [] z y3 (.inr ⟨g, F2, _, rfl, HD3.out.log, by decide⟩) HD3.out.ref rfl (by simp) HZW.out)
  refine HC.out.mono ?_
  rintro e y4 ⟨rfl, hby⟩
  have HX4 := hid (ev_keep HX3.out hby)
  have HD4 := hid (HD3.out.below hby)
  clear HC hby
  refine hK.out _ _ HX4.out.1 (fun hH4 => ?_)
  clear hK K hH3
  try simp only [Act.put, List.setIfInBounds_toArray, List.set_cons_zero, List.set_cons_succ]
  refine wpAnyH_take (i := 15) (v := ?_) rfl (by kernel_rfl) (by kernel_rfl) (by kernel_rfl) (fun _ _ _ h => h) (Or.inl ⟨by kernel_rfl, ?_⟩) hH4 ?_
  rotate_left
  · (intro w hSw; (try dsimp only at hSw); go_simp; try (with_reducible rfl))
  try simp only [Act.put, List.getElem_toArray, List.getElem_cons_zero, List.getElem_cons_succ, List.setIfInBounds_toArray, List.set_cons_zero, List.set_cons_succ]
  refine wpAnyH_take (i := 16) (v := ?_) rfl (by kernel_rfl) (by kernel_rfl) (by kernel_rfl) (fun _ _ _ h => h) (Or.inl ⟨by kernel_rfl, ?_⟩) hH4 ?_
  rotate_left
  · (intro w hSw; (try dsimp only at hSw); go_simp; try (with_reducible rfl))
  try simp only [Act.put, List.getElem_toArray, List.getElem_cons_zero, List.getElem_cons_succ, List.setIfInBounds_toArray, List.set_cons_zero, List.set_cons_succ]
  refine wpAnyH_done (by kernel_rfl) ?_ _
  refine NoPanic.normal ?_
  clear hH4
  go_wp2_with fail
  go_ret
  exact ⟨rfl, HWX.out.trans (HD4.out.turn.below HWX.out.size fun k hk e => by have := HG.out; have := HB4.out.size; have := HB2.out.size; omega)⟩
set_option maxRecDepth 100000 in
set_option maxHeartbeats 4000000 in
theorem none_d (A : Option Addr) (n c : Nat) (zs : List Int) (cap : Int) (nr : Nat) (z : Int) (w : World) (hcap : cap < 0) (hnr : nr < 256) (hr3 : ¬ nr % 3 < 2) (hz : ∀ z ∈ zs, 0 ≤ z ∧ z < 65536) (hn : zs.length = n) (hc : n ≤ c) (hs : Sl w w.heap.size A (nums .u16 zs)) (hzw : (Lit.int .i64 z).wf = true) :
    Calls Try.prog 8 #[.int .i64 cap, .int .u8 nr, .slice A n c, .int .i64 z] w fun e w' => e = .returned (.bool true) ∧ Below w.heap.size w w' := by
  have HO := hid (fun (w' : World) (h : Below w.heap.size w w') => of_any A n c 12 zs w' hz hn hc (hs.go h) (by omega))
  have HZW := hid hzw
  clear hz hn hc hs hzw
  obtain ⟨r, hr⟩ : ∃ r : Nat, r = nr % 3 := ⟨_, rfl⟩
  have hr1 : (nr : Int).tmod 3 = (r : Int) := by rw [hr]; rfl
  rw [← hr] at hr3
  have hrb : r < 3 := by omega
  have HN := hid (new_bad cap w (.inl hcap))
  clear hr
  have hci : ¬ (0 ≤ cap) := by omega
  have hre : r = 2 := by omega
  subst hre
  go_enter Try.func8, Try.ntmps8
  go_wp2_with fail
  refine HN.out.mono ?_
  rintro e w1 ⟨rfl, hb1⟩
  have HB1 := hid hb1
  clear hb1 HN
  have HN := hid (new_bad 65537 w1 (.inr (by decide)))
  go_wp2_with fail
  refine HN.out.mono ?_
  rintro e w2 ⟨rfl, hb2⟩
  have HB2 := hid (below_go HB1.out hb2)
  clear hb2 HN
  have HO1 := hid (HO.out w2 HB2.out)
  go_wp2_with fail
  refine HO1.out.mono ?_
  rintro e w3 ⟨gt, N, rfl, hN, ht3, hb3⟩
  have HT3 := hid ht3
  have HB23 := hid hb3
  have HEV := hid (event_any _ _ gt N 0 w3 ht3 (by omega))
  clear ht3 hb3 HO1
  go_wp2_with fail
  refine HEV.out.mono ?_
  rintro e w4 ⟨p, o, h, a, y, i', rfl, ok, hp3, hh, ha, hi1, hi2, ht4, hg4⟩
  have HB24 := hid (made_below HB23.out HB23.out.size hg4 (Nat.le_refl _) HT3.out)
  have HB4 := hid (below_go HB2.out HB24.out)
  have HT4 := hid ht4
  have HRI := hid (show Right (p, o, h, a, y) from ⟨ok, hh, ha⟩)
  have HH4 := hid hg4.size
  clear ht4 hg4 HEV ok hp3 hh ha hi1 hi2
  obtain ⟨bx, hbx⟩ : ∃ bx, bx = w4.heap.size := ⟨_, rfl⟩
  obtain ⟨w5, hw5⟩ : ∃ w5, w5 = w4.alloc (.cells #[.int .i64 (p : Int), .int .i64 (o : Int), .int .u64 (h : Int), .int .u64 (a : Int), .int .i64 (y : Int)] 36) := ⟨_, rfl⟩
  have HW5 := hid hw5
  have HBX4 := hid hbx
  have HX5 := hid (show EvAt bx p o h a y w5 by rw [hbx, hw5]; exact ev_new p o h a y w4)
  have HB45 := hid (show Below w4.heap.size w4 w5 by rw [hw5]; exact below_new w4 _ _)
  have HMI := hid (miss_nil z w5)
  clear hw5 hbx
  unfold evv
  go_wp2_with fail
  simp only [← HW5.out, ← HBX4.out]
  refine HMI.out.mono ?_
  rintro e w6 ⟨rfl, rfl⟩
  have HAP := hid (append_nil p o y h a w6)
  unfold evv at HAP
  obtain ⟨⟨e0, e1, e2, e3, e4⟩, hg5⟩ := HX5.out
  go_wp2_with fail
  clear e0 e1 e2 e3 e4 hg5
  refine HAP.out.mono ?_
  rintro e w7 ⟨rfl, hb7⟩
  have HB57 := hid hb7
  have HAK := hid (alike_any none 0 [] (fun _ => 0) _ _ [] z _ (.inl ⟨rfl, rfl, rfl, rfl⟩) (ref_new 0 w7) rfl (by simp) HZW.out)
  clear hb7 HAP HMI HW5
  go_wp2_with fail
  refine HAK.out.mono ?_
  rintro e w8 ⟨rfl, hb8⟩
  have HB58 := hid (below_go HB57.out (below_go (below_new w7 _ _) hb8))
  clear hb8 HAK
  obtain ⟨x, hx⟩ : ∃ x, x = (w8.alloc (.cells #[.int .i64 0, .slice none 0 0, .slice none 0 0, .int .u64 0, .map none, .map none] 72)).alloc (.cells #[.int .i64 0, .slice none 0 0, .slice none 0 0] 65) := ⟨_, rfl⟩
  have HBX8 := hid (show Below w8.heap.size w8 x by rw [hx]; exact below_go (below_new w8 _ _) (below_new _ _ _))
  have HSX := hid (show x.heap.size = w8.heap.size + 2 by rw [hx]; simp)
  obtain ⟨g, hg⟩ : ∃ g, g = w8.heap.size := ⟨_, rfl⟩
  have HL0 := hid (show LogAt x (fun k => k = g) g 0 [] (fun _ => 0) 0 by rw [hx, hg]; exact (log_zero w8).below (below_new _ _ _))
  have HR0 := hid (show RefAt x (fun k => k = g + 1) (g + 1) 0 [] [] by have := ref_new 0 (w8.alloc (.cells #[.int .i64 0, .slice none 0 0, .slice none 0 0, .int .u64 0, .map none, .map none] 72)); rw [World.size_alloc, ← hg] at this; rw [hx]; exact this)
  have HG := hid hg
  have HXX := hid hx
  have HB5X := hid (below_go HB58.out HBX8.out)
  have HB4X := hid (below_go HB45.out HB5X.out)
  have HWX := hid (below_go HB4.out HB4X.out)
  have hs1 := HB45.out.size
  have hs2 := HB58.out.size
  have hs3 := HH4.out
  have hs4 : w8.heap.size + 2 ≤ x.heap.size := by have := HSX.out; omega
  have hs5 : bx < w6.heap.size := HX5.out.2
  have HDX := hid (show Duo x w2.heap.size w3.heap.size gt N g (g + 1) 0 [] (fun z => misN [] z) 0 [] [] i' (fun k => k = g) (fun k => k = g + 1) x from
    ⟨HL0.out, HR0.out, HT4.out.below HB4X.out, fun k e1 e2 => by omega, fun k e => .inl e, fun k e => .inl e, ⟨by omega, by omega, by omega, by omega, by omega⟩, Turn.refl _ _⟩)
  have HBM := hid (show ¬ (bx = g + 1) by omega)
  have HBX := hid (show ¬ (bx = g) by omega)
  have HD0 := hid (HDX.out.below ((Below.refl _ _).drew))
  have HY0 := hid (ev_keep (ev_keep HX5.out HB5X.out) (Below.refl _ _).drew)
  obtain ⟨rr, hrr⟩ : ∃ rr, rr = oR 0 [] (some (p, o, h, a, y)) := ⟨_, rfl⟩
  have HRR := hid hrr
  have HZ0 := hid (Nat.le_refl x.drew.heap.size)
  clear hg hx hrr
  go_wp2_with fail
  simp only [World.size_alloc, ← HG.out, ← HXX.out]
  refine wp_region_noPanic ?_
  refine wp_region_held_drew (S := (fun W => W.cell? ⟨bx, 0, none⟩ = some (.int .i64 (p : Int)) ∧ W.cell? ⟨bx, 1, none⟩ = some (.int .i64 (o : Int)) ∧ W.cell? ⟨bx, 2, none⟩ = some (.int .u64 (h : Int)) ∧ W.cell? ⟨bx, 3, none⟩ = some (.int .u64 (a : Int)) ∧ W.cell? ⟨bx, 4, none⟩ = some (.int .i64 (y : Int)))) (by kernel_rfl) HY0.out.1 (fun hH0 => ?_)
  refine wpAnyH_ready (rs := [0]) (by kernel_rfl) (by simp) ?_
  refine AllReadyH.cons rfl (fun K hK => ?_) AllReadyH.nil
  simp only [List.getElem_toArray, List.getElem_cons_zero]
  go_simp
  refine (awake_any _).mono ?_
  rintro e y1 ⟨rfl, hby⟩
  have HD1 := hid (HD0.out.below hby)
  have HX1 := hid (ev_keep HY0.out hby)
  have HS1 := hid (Nat.le_trans HZ0.out hby.size)
  clear hby
  refine hK.out _ _ HX1.out.1 (fun hH1 => ?_)
  clear hK K hH0
  try simp only [Act.put, List.setIfInBounds_toArray, List.set_cons_zero, List.set_cons_succ]
  refine wpAnyH_take (i := 1) (v := ?_) rfl (by kernel_rfl) (by kernel_rfl) (by kernel_rfl) (fun _ _ _ h => h) (Or.inl ⟨by kernel_rfl, ?_⟩) hH1 ?_
  rotate_left
  · (intro w hSw; (try dsimp only at hSw); go_simp; try (with_reducible rfl))
  try simp only [Act.put, List.getElem_toArray, List.getElem_cons_zero, List.getElem_cons_succ, List.setIfInBounds_toArray, List.set_cons_zero, List.set_cons_succ]
  refine wpAnyH_take (i := 2) (v := ?_) rfl (by kernel_rfl) (by kernel_rfl) (by kernel_rfl) (fun _ _ _ h => h) (Or.inl ⟨by kernel_rfl, ?_⟩) hH1 ?_
  rotate_left
  · (intro w hSw; (try dsimp only at hSw); go_simp; try (with_reducible rfl))
  try simp only [Act.put, List.getElem_toArray, List.getElem_cons_zero, List.getElem_cons_succ, List.setIfInBounds_toArray, List.set_cons_zero, List.set_cons_succ]
  refine wpAnyH_take (i := 3) (v := ?_) rfl (by kernel_rfl) (by kernel_rfl) (by kernel_rfl) (fun _ _ _ h => h) (Or.inl ⟨by kernel_rfl, ?_⟩) hH1 ?_
  rotate_left
  · (intro w hSw; (try dsimp only at hSw); go_simp; try (with_reducible rfl))
  try simp only [Act.put, List.getElem_toArray, List.getElem_cons_zero, List.getElem_cons_succ, List.setIfInBounds_toArray, List.set_cons_zero, List.set_cons_succ]
  refine wpAnyH_take (i := 5) (v := ?_) rfl (by kernel_rfl) (by kernel_rfl) (by kernel_rfl) (fun _ _ _ h => h) (Or.inl ⟨by kernel_rfl, ?_⟩) hH1 ?_
  rotate_left
  · (intro w hSw; (try dsimp only at hSw); go_simp; try (with_reducible rfl))
  try simp only [Act.put, List.getElem_toArray, List.getElem_cons_zero, List.getElem_cons_succ, List.setIfInBounds_toArray, List.set_cons_zero, List.set_cons_succ]
  refine wpAnyH_take (i := 6) (v := ?_) rfl (by kernel_rfl) (by kernel_rfl) (by kernel_rfl) (fun _ _ _ h => h) (Or.inl ⟨by kernel_rfl, ?_⟩) hH1 ?_
  rotate_left
  · (intro w hSw; (try dsimp only at hSw); go_simp; try (with_reducible rfl))
  try simp only [Act.put, List.getElem_toArray, List.getElem_cons_zero, List.getElem_cons_succ, List.setIfInBounds_toArray, List.set_cons_zero, List.set_cons_succ]
  refine wpAnyH_ready (rs := [4]) (by kernel_rfl) (by simp) ?_
  refine AllReadyH.cons rfl (fun K hK => ?_) AllReadyH.nil
  simp only [List.getElem_toArray, List.getElem_cons_zero, List.getElem_cons_succ]
  go_simp
  have HC := hid (append_ev _ g 0 0 [] _ (some (p, o, h, a, y)) p o h a y y1 HD1.out.log ⟨⟨rfl, rfl, rfl, rfl, rfl⟩, HRI.out⟩ (by decide))
  unfold evv at HC
  rw [← HRR.out] at HC
  refine HC.out.mono ?_
  rintro e y2 ⟨rfl, hst⟩
  obtain ⟨F2, hd2, ht2⟩ := HD1.out.step1 hst
  have HD2 := hid hd2
  have HX2 := hid (turn_ev ht2 HX1.out HBX.out)
  clear HC hst hd2 ht2
  refine hK.out _ _ HX2.out.1 (fun hH2 => ?_)
  clear hK K hH1
  try simp only [Act.put, List.setIfInBounds_toArray, List.set_cons_zero, List.set_cons_succ]
  refine wpAnyH_ready (rs := [7]) (by kernel_rfl) (by simp) ?_
  refine AllReadyH.cons rfl (fun K hK => ?_) AllReadyH.nil
  simp only [List.getElem_toArray, List.getElem_cons_zero, List.getElem_cons_succ]
  go_simp
  have HC := hid (rappend_ev _ (g + 1) 0 [] [] (some (p, o, h, a, y)) p o h a y y2 HD2.out.ref ⟨⟨rfl, rfl, rfl, rfl, rfl⟩, HRI.out⟩ (by simp))
  unfold evv at HC
  rw [← HRR.out] at HC
  refine HC.out.mono ?_
  rintro e y3 ⟨rfl, hst⟩
  obtain ⟨G2, hd3, ht3⟩ := HD2.out.step2 hst
  have HD3 := hid hd3
  have HX3 := hid (turn_ev ht3 HX2.out HBM.out)
  clear HC hst hd3 ht3
  refine hK.out _ _ HX3.out.1 (fun hH3 => ?_)
  clear hK K hH2
  try simp only [Act.put, List.setIfInBounds_toArray, List.set_cons_zero, List.set_cons_succ]
  refine wpAnyH_take (i := 8) (v := ?_) rfl (by kernel_rfl) (by kernel_rfl) (by kernel_rfl) (fun _ _ _ h => h) (Or.inl ⟨by kernel_rfl, ?_⟩) hH3 ?_
  rotate_left
  · (intro w hSw; (try dsimp only at hSw); go_simp; try (with_reducible rfl))
  try simp only [Act.put, List.getElem_toArray, List.getElem_cons_zero, List.getElem_cons_succ, List.setIfInBounds_toArray, List.set_cons_zero, List.set_cons_succ]
  refine wpAnyH_take (i := 9) (v := ?_) rfl (by kernel_rfl) (by kernel_rfl) (by kernel_rfl) (fun _ _ _ h => h) (Or.inl ⟨by kernel_rfl, ?_⟩) hH3 ?_
  rotate_left
  · (intro w hSw; (try dsimp only at hSw); go_simp; try (with_reducible rfl))
  try simp only [Act.put, List.getElem_toArray, List.getElem_cons_zero, List.getElem_cons_succ, List.setIfInBounds_toArray, List.set_cons_zero, List.set_cons_succ]
  refine wpAnyH_take (i := 10) (v := ?_) rfl (by kernel_rfl) (by kernel_rfl) (by kernel_rfl) (fun _ _ _ h => h) (Or.inl ⟨by kernel_rfl, ?_⟩) hH3 ?_
  rotate_left
  · (intro w hSw; (try dsimp only at hSw); go_simp; try (with_reducible rfl))
  try simp only [Act.put, List.getElem_toArray, List.getElem_cons_zero, List.getElem_cons_succ, List.setIfInBounds_toArray, List.set_cons_zero, List.set_cons_succ]
  refine wpAnyH_take (i := 11) (v := ?_) rfl (by kernel_rfl) (by kernel_rfl) (by kernel_rfl) (fun _ _ _ h => h) (Or.inl ⟨by kernel_rfl, ?_⟩) hH3 ?_
  rotate_left
  · (intro w hSw; (try dsimp only at hSw); go_simp; try (with_reducible rfl))
  try simp only [Act.put, List.getElem_toArray, List.getElem_cons_zero, List.getElem_cons_succ, List.setIfInBounds_toArray, List.set_cons_zero, List.set_cons_succ]
  refine wpAnyH_take (i := 12) (v := ?_) rfl (by kernel_rfl) (by kernel_rfl) (by kernel_rfl) (fun _ _ _ h => h) (Or.inl ⟨by kernel_rfl, ?_⟩) hH3 ?_
  rotate_left
  · (intro w hSw; (try dsimp only at hSw); go_simp; try (with_reducible rfl))
  try simp only [Act.put, List.getElem_toArray, List.getElem_cons_zero, List.getElem_cons_succ, List.setIfInBounds_toArray, List.set_cons_zero, List.set_cons_succ]
  refine wpAnyH_take (i := 13) (v := ?_) rfl (by kernel_rfl) (by kernel_rfl) (by kernel_rfl) (fun _ _ _ h => h) (Or.inl ⟨by kernel_rfl, ?_⟩) hH3 ?_
  rotate_left
  · (intro w hSw; (try dsimp only at hSw); go_simp; try (with_reducible rfl))
  try simp only [Act.put, List.getElem_toArray, List.getElem_cons_zero, List.getElem_cons_succ, List.setIfInBounds_toArray, List.set_cons_zero, List.set_cons_succ]
  refine wpAnyH_ready (rs := [14]) (by kernel_rfl) (by simp) ?_
  refine AllReadyH.cons rfl (fun K hK => ?_) AllReadyH.nil
  simp only [List.getElem_toArray, List.getElem_cons_zero, List.getElem_cons_succ]
  go_simp
  have HC := hid (alike_any (some ⟨g, 0, none⟩) 0 _ (fun z => misN [] z) _ (g + 1) [] z y3 (.inr ⟨g, F2, _, rfl, HD3.out.log, by decide⟩) HD3.out.ref rfl (by simp) HZW.out)
  refine HC.out.mono ?_
  rintro e y4 ⟨rfl, hby⟩
  have HX4 := hid (ev_keep HX3.out hby)
  have HD4 := hid (HD3.out.below hby)
  clear HC hby
  refine hK.out _ _ HX4.out.1 (fun hH4 => ?_)
  clear hK K hH3
  try simp only [Act.put, List.setIfInBounds_toArray, List.set_cons_zero, List.set_cons_succ]
  refine wpAnyH_take (i := 15) (v := ?_) rfl (by kernel_rfl) (by kernel_rfl) (by kernel_rfl) (fun _ _ _ h => h) (Or.inl ⟨by kernel_rfl, ?_⟩) hH4 ?_
  rotate_left
  · (intro w hSw; (try dsimp only at hSw); go_simp; try (with_reducible rfl))
  try simp only [Act.put, List.getElem_toArray, List.getElem_cons_zero, List.getElem_cons_succ, List.setIfInBounds_toArray, List.set_cons_zero, List.set_cons_succ]
  refine wpAnyH_take (i := 16) (v := ?_) rfl (by kernel_rfl) (by kernel_rfl) (by kernel_rfl) (fun _ _ _ h => h) (Or.inl ⟨by kernel_rfl, ?_⟩) hH4 ?_
  rotate_left
  · (intro w hSw; (try dsimp only at hSw); go_simp; try (with_reducible rfl))
  try simp only [Act.put, List.getElem_toArray, List.getElem_cons_zero, List.getElem_cons_succ, List.setIfInBounds_toArray, List.set_cons_zero, List.set_cons_succ]
  refine wpAnyH_done (by kernel_rfl) ?_ _
  refine NoPanic.normal ?_
  clear hH4
  go_wp2_with fail
  go_ret
  exact ⟨rfl, HWX.out.trans (HD4.out.turn.below HWX.out.size fun k hk e => by have := HG.out; have := HB4.out.size; have := HB2.out.size; omega)⟩
set_option maxRecDepth 100000 in
set_option maxHeartbeats 4000000 in
theorem none_e (A : Option Addr) (n c : Nat) (zs : List Int) (cap : Int) (nr : Nat) (z : Int) (w : World) (hcap : 65536 < cap) (hnr : nr < 256) (hr3 : nr % 3 < 2) (hz : ∀ z ∈ zs, 0 ≤ z ∧ z < 65536) (hn : zs.length = n) (hc : n ≤ c) (hs : Sl w w.heap.size A (nums .u16 zs)) (hzw : (Lit.int .i64 z).wf = true) :
    Calls Try.prog 8 #[.int .i64 cap, .int .u8 nr, .slice A n c, .int .i64 z] w fun e w' => e = .returned (.bool true) ∧ Below w.heap.size w w' := by
  have HO := hid (fun (w' : World) (h : Below w.heap.size w w') => of_any A n c 12 zs w' hz hn hc (hs.go h) (by omega))
  have HZW := hid hzw
  clear hz hn hc hs hzw
  obtain ⟨r, hr⟩ : ∃ r : Nat, r = nr % 3 := ⟨_, rfl⟩
  have hr1 : (nr : Int).tmod 3 = (r : Int) := by rw [hr]; rfl
  rw [← hr] at hr3
  have hrb : r < 3 := by omega
  have HN := hid (new_bad cap w (.inr hcap))
  clear hr
  have hci : 0 ≤ cap := by omega
  have hcj : ¬ (cap ≤ 65536) := by omega
  obtain ⟨c2, hc2⟩ : ∃ c2 : Nat, c2 = 65535 + r := ⟨_, rfl⟩
  have hri : (65535 : Int) + (r : Int) = (c2 : Int) := by omega
  have hc2a : 65535 ≤ c2 := by omega
  have hc2b : c2 ≤ 65536 := by omega
  clear hc2
  have hrl : ((r : Nat) : Int) < 2 := by omega
  go_enter Try.func8, Try.ntmps8
  go_wp2_with fail
  refine HN.out.mono ?_
  rintro e w1 ⟨rfl, hb1⟩
  have HB1 := hid hb1
  clear hb1 HN
  have HN := hid (new_ok c2 w1 (by omega))
  go_wp2_with fail
  refine HN.out.mono ?_
  rintro e w2 ⟨g2, hg2, rfl, hL2, hb2⟩
  clear hL2
  have HB2 := hid (below_go HB1.out hb2)
  clear hb2 HN
  have HO1 := hid (HO.out w2 HB2.out)
  go_wp2_with fail
  refine HO1.out.mono ?_
  rintro e w3 ⟨gt, N, rfl, hN, ht3, hb3⟩
  have HT3 := hid ht3
  have HB23 := hid hb3
  have HEV := hid (event_any _ _ gt N 0 w3 ht3 (by omega))
  clear ht3 hb3 HO1
  go_wp2_with fail
  refine HEV.out.mono ?_
  rintro e w4 ⟨p, o, h, a, y, i', rfl, ok, hp3, hh, ha, hi1, hi2, ht4, hg4⟩
  have HB24 := hid (made_below HB23.out HB23.out.size hg4 (Nat.le_refl _) HT3.out)
  have HB4 := hid (below_go HB2.out HB24.out)
  have HT4 := hid ht4
  have HRI := hid (show Right (p, o, h, a, y) from ⟨ok, hh, ha⟩)
  have HH4 := hid hg4.size
  clear ht4 hg4 HEV ok hp3 hh ha hi1 hi2
  obtain ⟨bx, hbx⟩ : ∃ bx, bx = w4.heap.size := ⟨_, rfl⟩
  obtain ⟨w5, hw5⟩ : ∃ w5, w5 = w4.alloc (.cells #[.int .i64 (p : Int), .int .i64 (o : Int), .int .u64 (h : Int), .int .u64 (a : Int), .int .i64 (y : Int)] 36) := ⟨_, rfl⟩
  have HW5 := hid hw5
  have HBX4 := hid hbx
  have HX5 := hid (show EvAt bx p o h a y w5 by rw [hbx, hw5]; exact ev_new p o h a y w4)
  have HB45 := hid (show Below w4.heap.size w4 w5 by rw [hw5]; exact below_new w4 _ _)
  have HMI := hid (miss_nil z w5)
  clear hw5 hbx
  unfold evv
  go_wp2_with fail
  simp only [← HW5.out, ← HBX4.out]
  refine HMI.out.mono ?_
  rintro e w6 ⟨rfl, rfl⟩
  have HAP := hid (append_nil p o y h a w6)
  unfold evv at HAP
  obtain ⟨⟨e0, e1, e2, e3, e4⟩, hg5⟩ := HX5.out
  go_wp2_with fail
  clear e0 e1 e2 e3 e4 hg5
  refine HAP.out.mono ?_
  rintro e w7 ⟨rfl, hb7⟩
  have HB57 := hid hb7
  have HAK := hid (alike_any none 0 [] (fun _ => 0) _ _ [] z _ (.inl ⟨rfl, rfl, rfl, rfl⟩) (ref_new 0 w7) rfl (by simp) HZW.out)
  clear hb7 HAP HMI HW5
  go_wp2_with fail
  refine HAK.out.mono ?_
  rintro e w8 ⟨rfl, hb8⟩
  have HB58 := hid (below_go HB57.out (below_go (below_new w7 _ _) hb8))
  clear hb8 HAK
  obtain ⟨x, hx⟩ : ∃ x, x = (w8.alloc (.cells #[.int .i64 0, .slice none 0 0, .slice none 0 0, .int .u64 0, .map none, .map none] 72)).alloc (.cells #[.int .i64 0, .slice none 0 0, .slice none 0 0] 65) := ⟨_, rfl⟩
  have HBX8 := hid (show Below w8.heap.size w8 x by rw [hx]; exact below_go (below_new w8 _ _) (below_new _ _ _))
  have HSX := hid (show x.heap.size = w8.heap.size + 2 by rw [hx]; simp)
  obtain ⟨g, hg⟩ : ∃ g, g = w8.heap.size := ⟨_, rfl⟩
  have HL0 := hid (show LogAt x (fun k => k = g) g 0 [] (fun _ => 0) 0 by rw [hx, hg]; exact (log_zero w8).below (below_new _ _ _))
  have HR0 := hid (show RefAt x (fun k => k = g + 1) (g + 1) 0 [] [] by have := ref_new 0 (w8.alloc (.cells #[.int .i64 0, .slice none 0 0, .slice none 0 0, .int .u64 0, .map none, .map none] 72)); rw [World.size_alloc, ← hg] at this; rw [hx]; exact this)
  have HG := hid hg
  have HXX := hid hx
  have HB5X := hid (below_go HB58.out HBX8.out)
  have HB4X := hid (below_go HB45.out HB5X.out)
  have HWX := hid (below_go HB4.out HB4X.out)
  have hs1 := HB45.out.size
  have hs2 := HB58.out.size
  have hs3 := HH4.out
  have hs4 : w8.heap.size + 2 ≤ x.heap.size := by have := HSX.out; omega
  have hs5 : bx < w6.heap.size := HX5.out.2
  have HDX := hid (show Duo x w2.heap.size w3.heap.size gt N g (g + 1) 0 [] (fun z => misN [] z) 0 [] [] i' (fun k => k = g) (fun k => k = g + 1) x from
    ⟨HL0.out, HR0.out, HT4.out.below HB4X.out, fun k e1 e2 => by omega, fun k e => .inl e, fun k e => .inl e, ⟨by omega, by omega, by omega, by omega, by omega⟩, Turn.refl _ _⟩)
  have HBM := hid (show ¬ (bx = g + 1) by omega)
  have HBX := hid (show ¬ (bx = g) by omega)
  have HD0 := hid (HDX.out.below ((Below.refl _ _).drew))
  have HY0 := hid (ev_keep (ev_keep HX5.out HB5X.out) (Below.refl _ _).drew)
  obtain ⟨rr, hrr⟩ : ∃ rr, rr = oR 0 [] (some (p, o, h, a, y)) := ⟨_, rfl⟩
  have HRR := hid hrr
  have HZ0 := hid (Nat.le_refl x.drew.heap.size)
  clear hg hx hrr
  go_wp2_with fail
  simp only [World.size_alloc, ← HG.out, ← HXX.out]
  refine wp_region_noPanic ?_
  refine wp_region_held_drew (S := (fun W => W.cell? ⟨bx, 0, none⟩ = some (.int .i64 (p : Int)) ∧ W.cell? ⟨bx, 1, none⟩ = some (.int .i64 (o : Int)) ∧ W.cell? ⟨bx, 2, none⟩ = some (.int .u64 (h : Int)) ∧ W.cell? ⟨bx, 3, none⟩ = some (.int .u64 (a : Int)) ∧ W.cell? ⟨bx, 4, none⟩ = some (.int .i64 (y : Int)))) (by kernel_rfl) HY0.out.1 (fun hH0 => ?_)
  refine wpAnyH_ready (rs := [0]) (by kernel_rfl) (by simp) ?_
  refine AllReadyH.cons rfl (fun K hK => ?_) AllReadyH.nil
  simp only [List.getElem_toArray, List.getElem_cons_zero]
  go_simp
  refine (awake_any _).mono ?_
  rintro e y1 ⟨rfl, hby⟩
  have HD1 := hid (HD0.out.below hby)
  have HX1 := hid (ev_keep HY0.out hby)
  have HS1 := hid (Nat.le_trans HZ0.out hby.size)
  clear hby
  refine hK.out _ _ HX1.out.1 (fun hH1 => ?_)
  clear hK K hH0
  try simp only [Act.put, List.setIfInBounds_toArray, List.set_cons_zero, List.set_cons_succ]
  refine wpAnyH_take (i := 1) (v := ?_) rfl (by kernel_rfl) (by kernel_rfl) (by kernel_rfl) (fun _ _ _ h => h) (Or.inl ⟨by kernel_rfl, ?_⟩) hH1 ?_
  rotate_left
  · (intro w hSw; (try dsimp only at hSw); go_simp; try (with_reducible rfl))
  try simp only [Act.put, List.getElem_toArray, List.getElem_cons_zero, List.getElem_cons_succ, List.setIfInBounds_toArray, List.set_cons_zero, List.set_cons_succ]
  refine wpAnyH_take (i := 2) (v := ?_) rfl (by kernel_rfl) (by kernel_rfl) (by kernel_rfl) (fun _ _ _ h => h) (Or.inl ⟨by kernel_rfl, ?_⟩) hH1 ?_
  rotate_left
  · (intro w hSw; (try dsimp only at hSw); go_simp; try (with_reducible rfl))
  try simp only [Act.put, List.getElem_toArray, List.getElem_cons_zero, List.getElem_cons_succ, List.setIfInBounds_toArray, List.set_cons_zero, List.set_cons_succ]
  refine wpAnyH_take (i := 3) (v := ?_) rfl (by kernel_rfl) (by kernel_rfl) (by kernel_rfl) (fun _ _ _ h => h) (Or.inl ⟨by kernel_rfl, ?_⟩) hH1 ?_
  rotate_left
  · (intro w hSw; (try dsimp only at hSw); go_simp; try (with_reducible rfl))
  try simp only [Act.put, List.getElem_toArray, List.getElem_cons_zero, List.getElem_cons_succ, List.setIfInBounds_toArray, List.set_cons_zero, List.set_cons_succ]
  refine wpAnyH_take (i := 5) (v := ?_) rfl (by kernel_rfl) (by kernel_rfl) (by kernel_rfl) (fun _ _ _ h => h) (Or.inl ⟨by kernel_rfl, ?_⟩) hH1 ?_
  rotate_left
  · (intro w hSw; (try dsimp only at hSw); go_simp; try (with_reducible rfl))
  try simp only [Act.put, List.getElem_toArray, List.getElem_cons_zero, List.getElem_cons_succ, List.setIfInBounds_toArray, List.set_cons_zero, List.set_cons_succ]
  refine wpAnyH_take (i := 6) (v := ?_) rfl (by kernel_rfl) (by kernel_rfl) (by kernel_rfl) (fun _ _ _ h => h) (Or.inl ⟨by kernel_rfl, ?_⟩) hH1 ?_
  rotate_left
  · (intro w hSw; (try dsimp only at hSw); go_simp; try (with_reducible rfl))
  try simp only [Act.put, List.getElem_toArray, List.getElem_cons_zero, List.getElem_cons_succ, List.setIfInBounds_toArray, List.set_cons_zero, List.set_cons_succ]
  refine wpAnyH_ready (rs := [4]) (by kernel_rfl) (by simp) ?_
  refine AllReadyH.cons rfl (fun K hK => ?_) AllReadyH.nil
  simp only [List.getElem_toArray, List.getElem_cons_zero, List.getElem_cons_succ]
  go_simp
  have HC := hid (append_ev _ g 0 0 [] _ (some (p, o, h, a, y)) p o h a y y1 HD1.out.log ⟨⟨rfl, rfl, rfl, rfl, rfl⟩, HRI.out⟩ (by decide))
  unfold evv at HC
  rw [← HRR.out] at HC
  refine HC.out.mono ?_
  rintro e y2 ⟨rfl, hst⟩
  obtain ⟨F2, hd2, ht2⟩ := HD1.out.step1 hst
  have HD2 := hid hd2
  have HX2 := hid (turn_ev ht2 HX1.out HBX.out)
  clear HC hst hd2 ht2
  refine hK.out _ _ HX2.out.1 (fun hH2 => ?_)
  clear hK K hH1
  try simp only [Act.put, List.setIfInBounds_toArray, List.set_cons_zero, List.set_cons_succ]
  refine wpAnyH_ready (rs := [7]) (by kernel_rfl) (by simp) ?_
  refine AllReadyH.cons rfl (fun K hK => ?_) AllReadyH.nil
  simp only [List.getElem_toArray, List.getElem_cons_zero, List.getElem_cons_succ]
  go_simp
  have HC := hid (rappend_ev _ (g + 1) 0 [] [] (some (p, o, h, a, y)) p o h a y y2 HD2.out.ref ⟨⟨rfl, rfl, rfl, rfl, rfl⟩, HRI.out⟩ (by simp))
  unfold evv at HC
  rw [← HRR.out] at HC
  refine HC.out.mono ?_
  rintro e y3 ⟨rfl, hst⟩
  obtain ⟨G2, hd3, ht3⟩ := HD2.out.step2 hst
  have HD3 := hid hd3
  have HX3 := hid (turn_ev ht3 HX2.out HBM.out)
  clear HC hst hd3 ht3
  refine hK.out _ _ HX3.out.1 (fun hH3 => ?_)
  clear hK K hH2
  try simp only [Act.put, List.setIfInBounds_toArray, List.set_cons_zero, List.set_cons_succ]
  refine wpAnyH_take (i := 8) (v := ?_) rfl (by kernel_rfl) (by kernel_rfl) (by kernel_rfl) (fun _ _ _ h => h) (Or.inl ⟨by kernel_rfl, ?_⟩) hH3 ?_
  rotate_left
  · (intro w hSw; (try dsimp only at hSw); go_simp; try (with_reducible rfl))
  try simp only [Act.put, List.getElem_toArray, List.getElem_cons_zero, List.getElem_cons_succ, List.setIfInBounds_toArray, List.set_cons_zero, List.set_cons_succ]
  refine wpAnyH_take (i := 9) (v := ?_) rfl (by kernel_rfl) (by kernel_rfl) (by kernel_rfl) (fun _ _ _ h => h) (Or.inl ⟨by kernel_rfl, ?_⟩) hH3 ?_
  rotate_left
  · (intro w hSw; (try dsimp only at hSw); go_simp; try (with_reducible rfl))
  try simp only [Act.put, List.getElem_toArray, List.getElem_cons_zero, List.getElem_cons_succ, List.setIfInBounds_toArray, List.set_cons_zero, List.set_cons_succ]
  refine wpAnyH_take (i := 10) (v := ?_) rfl (by kernel_rfl) (by kernel_rfl) (by kernel_rfl) (fun _ _ _ h => h) (Or.inl ⟨by kernel_rfl, ?_⟩) hH3 ?_
  rotate_left
  · (intro w hSw; (try dsimp only at hSw); go_simp; try (with_reducible rfl))
  try simp only [Act.put, List.getElem_toArray, List.getElem_cons_zero, List.getElem_cons_succ, List.setIfInBounds_toArray, List.set_cons_zero, List.set_cons_succ]
  refine wpAnyH_take (i := 11) (v := ?_) rfl (by kernel_rfl) (by kernel_rfl) (by kernel_rfl) (fun _ _ _ h => h) (Or.inl ⟨by kernel_rfl, ?_⟩) hH3 ?_
  rotate_left
  · (intro w hSw; (try dsimp only at hSw); go_simp; try (with_reducible rfl))
  try simp only [Act.put, List.getElem_toArray, List.getElem_cons_zero, List.getElem_cons_succ, List.setIfInBounds_toArray, List.set_cons_zero, List.set_cons_succ]
  refine wpAnyH_take (i := 12) (v := ?_) rfl (by kernel_rfl) (by kernel_rfl) (by kernel_rfl) (fun _ _ _ h => h) (Or.inl ⟨by kernel_rfl, ?_⟩) hH3 ?_
  rotate_left
  · (intro w hSw; (try dsimp only at hSw); go_simp; try (with_reducible rfl))
  try simp only [Act.put, List.getElem_toArray, List.getElem_cons_zero, List.getElem_cons_succ, List.setIfInBounds_toArray, List.set_cons_zero, List.set_cons_succ]
  refine wpAnyH_take (i := 13) (v := ?_) rfl (by kernel_rfl) (by kernel_rfl) (by kernel_rfl) (fun _ _ _ h => h) (Or.inl ⟨by kernel_rfl, ?_⟩) hH3 ?_
  rotate_left
  · (intro w hSw; (try dsimp only at hSw); go_simp; try (with_reducible rfl))
  try simp only [Act.put, List.getElem_toArray, List.getElem_cons_zero, List.getElem_cons_succ, List.setIfInBounds_toArray, List.set_cons_zero, List.set_cons_succ]
  refine wpAnyH_ready (rs := [14]) (by kernel_rfl) (by simp) ?_
  refine AllReadyH.cons rfl (fun K hK => ?_) AllReadyH.nil
  simp only [List.getElem_toArray, List.getElem_cons_zero, List.getElem_cons_succ]
  go_simp
  have HC := hid (alike_any (some ⟨g, 0, none⟩) 0 _ (fun z => misN [] z) _ (g + 1) [] z y3 (.inr ⟨g, F2, _, rfl, HD3.out.log, by decide⟩) HD3.out.ref rfl (by simp) HZW.out)
  refine HC.out.mono ?_
  rintro e y4 ⟨rfl, hby⟩
  have HX4 := hid (ev_keep HX3.out hby)
  have HD4 := hid (HD3.out.below hby)
  clear HC hby
  refine hK.out _ _ HX4.out.1 (fun hH4 => ?_)
  clear hK K hH3
  try simp only [Act.put, List.setIfInBounds_toArray, List.set_cons_zero, List.set_cons_succ]
  refine wpAnyH_take (i := 15) (v := ?_) rfl (by kernel_rfl) (by kernel_rfl) (by kernel_rfl) (fun _ _ _ h => h) (Or.inl ⟨by kernel_rfl, ?_⟩) hH4 ?_
  rotate_left
  · (intro w hSw; (try dsimp only at hSw); go_simp; try (with_reducible rfl))
  try simp only [Act.put, List.getElem_toArray, List.getElem_cons_zero, List.getElem_cons_succ, List.setIfInBounds_toArray, List.set_cons_zero, List.set_cons_succ]
  refine wpAnyH_take (i := 16) (v := ?_) rfl (by kernel_rfl) (by kernel_rfl) (by kernel_rfl) (fun _ _ _ h => h) (Or.inl ⟨by kernel_rfl, ?_⟩) hH4 ?_
  rotate_left
  · (intro w hSw; (try dsimp only at hSw); go_simp; try (with_reducible rfl))
  try simp only [Act.put, List.getElem_toArray, List.getElem_cons_zero, List.getElem_cons_succ, List.setIfInBounds_toArray, List.set_cons_zero, List.set_cons_succ]
  refine wpAnyH_done (by kernel_rfl) ?_ _
  refine NoPanic.normal ?_
  clear hH4
  go_wp2_with fail
  go_ret
  exact ⟨rfl, HWX.out.trans (HD4.out.turn.below HWX.out.size fun k hk e => by have := HG.out; have := HB4.out.size; have := HB2.out.size; omega)⟩
set_option maxRecDepth 100000 in
set_option maxHeartbeats 4000000 in
theorem none_f (A : Option Addr) (n c : Nat) (zs : List Int) (cap : Int) (nr : Nat) (z : Int) (w : World) (hcap : 65536 < cap) (hnr : nr < 256) (hr3 : ¬ nr % 3 < 2) (hz : ∀ z ∈ zs, 0 ≤ z ∧ z < 65536) (hn : zs.length = n) (hc : n ≤ c) (hs : Sl w w.heap.size A (nums .u16 zs)) (hzw : (Lit.int .i64 z).wf = true) :
    Calls Try.prog 8 #[.int .i64 cap, .int .u8 nr, .slice A n c, .int .i64 z] w fun e w' => e = .returned (.bool true) ∧ Below w.heap.size w w' := by
  have HO := hid (fun (w' : World) (h : Below w.heap.size w w') => of_any A n c 12 zs w' hz hn hc (hs.go h) (by omega))
  have HZW := hid hzw
  clear hz hn hc hs hzw
  obtain ⟨r, hr⟩ : ∃ r : Nat, r = nr % 3 := ⟨_, rfl⟩
  have hr1 : (nr : Int).tmod 3 = (r : Int) := by rw [hr]; rfl
  rw [← hr] at hr3
  have hrb : r < 3 := by omega
  have HN := hid (new_bad cap w (.inr hcap))
  clear hr
  have hci : 0 ≤ cap := by omega
  have hcj : ¬ (cap ≤ 65536) := by omega
  have hre : r = 2 := by omega
  subst hre
  go_enter Try.func8, Try.ntmps8
  go_wp2_with fail
  refine HN.out.mono ?_
  rintro e w1 ⟨rfl, hb1⟩
  have HB1 := hid hb1
  clear hb1 HN
  have HN := hid (new_bad 65537 w1 (.inr (by decide)))
  go_wp2_with fail
  refine HN.out.mono ?_
  rintro e w2 ⟨rfl, hb2⟩
  have HB2 := hid (below_go HB1.out hb2)
  clear hb2 HN
  have HO1 := hid (HO.out w2 HB2.out)
  go_wp2_with fail
  refine HO1.out.mono ?_
  rintro e w3 ⟨gt, N, rfl, hN, ht3, hb3⟩
  have HT3 := hid ht3
  have HB23 := hid hb3
  have HEV := hid (event_any _ _ gt N 0 w3 ht3 (by omega))
  clear ht3 hb3 HO1
  go_wp2_with fail
  refine HEV.out.mono ?_
  rintro e w4 ⟨p, o, h, a, y, i', rfl, ok, hp3, hh, ha, hi1, hi2, ht4, hg4⟩
  have HB24 := hid (made_below HB23.out HB23.out.size hg4 (Nat.le_refl _) HT3.out)
  have HB4 := hid (below_go HB2.out HB24.out)
  have HT4 := hid ht4
  have HRI := hid (show Right (p, o, h, a, y) from ⟨ok, hh, ha⟩)
  have HH4 := hid hg4.size
  clear ht4 hg4 HEV ok hp3 hh ha hi1 hi2
  obtain ⟨bx, hbx⟩ : ∃ bx, bx = w4.heap.size := ⟨_, rfl⟩
  obtain ⟨w5, hw5⟩ : ∃ w5, w5 = w4.alloc (.cells #[.int .i64 (p : Int), .int .i64 (o : Int), .int .u64 (h : Int), .int .u64 (a : Int), .int .i64 (y : Int)] 36) := ⟨_, rfl⟩
  have HW5 := hid hw5
  have HBX4 := hid hbx
  have HX5 := hid (show EvAt bx p o h a y w5 by rw [hbx, hw5]; exact ev_new p o h a y w4)
  have HB45 := hid (show Below w4.heap.size w4 w5 by rw [hw5]; exact below_new w4 _ _)
  have HMI := hid (miss_nil z w5)
  clear hw5 hbx
  unfold evv
  go_wp2_with fail
  simp only [← HW5.out, ← HBX4.out]
  refine HMI.out.mono ?_
  rintro e w6 ⟨rfl, rfl⟩
  have HAP := hid (append_nil p o y h a w6)
  unfold evv at HAP
  obtain ⟨⟨e0, e1, e2, e3, e4⟩, hg5⟩ := HX5.out
  go_wp2_with fail
  clear e0 e1 e2 e3 e4 hg5
  refine HAP.out.mono ?_
  rintro e w7 ⟨rfl, hb7⟩
  have HB57 := hid hb7
  have HAK := hid (alike_any none 0 [] (fun _ => 0) _ _ [] z _ (.inl ⟨rfl, rfl, rfl, rfl⟩) (ref_new 0 w7) rfl (by simp) HZW.out)
  clear hb7 HAP HMI HW5
  go_wp2_with fail
  refine HAK.out.mono ?_
  rintro e w8 ⟨rfl, hb8⟩
  have HB58 := hid (below_go HB57.out (below_go (below_new w7 _ _) hb8))
  clear hb8 HAK
  obtain ⟨x, hx⟩ : ∃ x, x = (w8.alloc (.cells #[.int .i64 0, .slice none 0 0, .slice none 0 0, .int .u64 0, .map none, .map none] 72)).alloc (.cells #[.int .i64 0, .slice none 0 0, .slice none 0 0] 65) := ⟨_, rfl⟩
  have HBX8 := hid (show Below w8.heap.size w8 x by rw [hx]; exact below_go (below_new w8 _ _) (below_new _ _ _))
  have HSX := hid (show x.heap.size = w8.heap.size + 2 by rw [hx]; simp)
  obtain ⟨g, hg⟩ : ∃ g, g = w8.heap.size := ⟨_, rfl⟩
  have HL0 := hid (show LogAt x (fun k => k = g) g 0 [] (fun _ => 0) 0 by rw [hx, hg]; exact (log_zero w8).below (below_new _ _ _))
  have HR0 := hid (show RefAt x (fun k => k = g + 1) (g + 1) 0 [] [] by have := ref_new 0 (w8.alloc (.cells #[.int .i64 0, .slice none 0 0, .slice none 0 0, .int .u64 0, .map none, .map none] 72)); rw [World.size_alloc, ← hg] at this; rw [hx]; exact this)
  have HG := hid hg
  have HXX := hid hx
  have HB5X := hid (below_go HB58.out HBX8.out)
  have HB4X := hid (below_go HB45.out HB5X.out)
  have HWX := hid (below_go HB4.out HB4X.out)
  have hs1 := HB45.out.size
  have hs2 := HB58.out.size
  have hs3 := HH4.out
  have hs4 : w8.heap.size + 2 ≤ x.heap.size := by have := HSX.out; omega
  have hs5 : bx < w6.heap.size := HX5.out.2
  have HDX := hid (show Duo x w2.heap.size w3.heap.size gt N g (g + 1) 0 [] (fun z => misN [] z) 0 [] [] i' (fun k => k = g) (fun k => k = g + 1) x from
    ⟨HL0.out, HR0.out, HT4.out.below HB4X.out, fun k e1 e2 => by omega, fun k e => .inl e, fun k e => .inl e, ⟨by omega, by omega, by omega, by omega, by omega⟩, Turn.refl _ _⟩)
  have HBM := hid (show ¬ (bx = g + 1) by omega)
  have HBX := hid (show ¬ (bx = g) by omega)
  have HD0 := hid (HDX.out.below ((Below.refl _ _).drew))
  have HY0 := hid (ev_keep (ev_keep HX5.out HB5X.out) (Below.refl _ _).drew)
  obtain ⟨rr, hrr⟩ : ∃ rr, rr = oR 0 [] (some (p, o, h, a, y)) := ⟨_, rfl⟩
  have HRR := hid hrr
  have HZ0 := hid (Nat.le_refl x.drew.heap.size)
  clear hg hx hrr
  go_wp2_with fail
  simp only [World.size_alloc, ← HG.out, ← HXX.out]
  refine wp_region_noPanic ?_
  refine wp_region_held_drew (S := (fun W => W.cell? ⟨bx, 0, none⟩ = some (.int .i64 (p : Int)) ∧ W.cell? ⟨bx, 1, none⟩ = some (.int .i64 (o : Int)) ∧ W.cell? ⟨bx, 2, none⟩ = some (.int .u64 (h : Int)) ∧ W.cell? ⟨bx, 3, none⟩ = some (.int .u64 (a : Int)) ∧ W.cell? ⟨bx, 4, none⟩ = some (.int .i64 (y : Int)))) (by kernel_rfl) HY0.out.1 (fun hH0 => ?_)
  refine wpAnyH_ready (rs := [0]) (by kernel_rfl) (by simp) ?_
  refine AllReadyH.cons rfl (fun K hK => ?_) AllReadyH.nil
  simp only [List.getElem_toArray, List.getElem_cons_zero]
  go_simp
  refine (awake_any _).mono ?_
  rintro e y1 ⟨rfl, hby⟩
  have HD1 := hid (HD0.out.below hby)
  have HX1 := hid (ev_keep HY0.out hby)
  have HS1 := hid (Nat.le_trans HZ0.out hby.size)
  clear hby
  refine hK.out _ _ HX1.out.1 (fun hH1 => ?_)
  clear hK K hH0
  try simp only [Act.put, List.setIfInBounds_toArray, List.set_cons_zero, List.set_cons_succ]
  refine wpAnyH_take (i := 1) (v := ?_) rfl (by kernel_rfl) (by kernel_rfl) (by kernel_rfl) (fun _ _ _ h => h) (Or.inl ⟨by kernel_rfl, ?_⟩) hH1 ?_
  rotate_left
  · (intro w hSw; (try dsimp only at hSw); go_simp; try (with_reducible rfl))
  try simp only [Act.put, List.getElem_toArray, List.getElem_cons_zero, List.getElem_cons_succ, List.setIfInBounds_toArray, List.set_cons_zero, List.set_cons_succ]
  refine wpAnyH_take (i := 2) (v := ?_) rfl (by kernel_rfl) (by kernel_rfl) (by kernel_rfl) (fun _ _ _ h => h) (Or.inl ⟨by kernel_rfl, ?_⟩) hH1 ?_
  rotate_left
  · (intro w hSw; (try dsimp only at hSw); go_simp; try (with_reducible rfl))
  try simp only [Act.put, List.getElem_toArray, List.getElem_cons_zero, List.getElem_cons_succ, List.setIfInBounds_toArray, List.set_cons_zero, List.set_cons_succ]
  refine wpAnyH_take (i := 3) (v := ?_) rfl (by kernel_rfl) (by kernel_rfl) (by kernel_rfl) (fun _ _ _ h => h) (Or.inl ⟨by kernel_rfl, ?_⟩) hH1 ?_
  rotate_left
  · (intro w hSw; (try dsimp only at hSw); go_simp; try (with_reducible rfl))
  try simp only [Act.put, List.getElem_toArray, List.getElem_cons_zero, List.getElem_cons_succ, List.setIfInBounds_toArray, List.set_cons_zero, List.set_cons_succ]
  refine wpAnyH_take (i := 5) (v := ?_) rfl (by kernel_rfl) (by kernel_rfl) (by kernel_rfl) (fun _ _ _ h => h) (Or.inl ⟨by kernel_rfl, ?_⟩) hH1 ?_
  rotate_left
  · (intro w hSw; (try dsimp only at hSw); go_simp; try (with_reducible rfl))
  try simp only [Act.put, List.getElem_toArray, List.getElem_cons_zero, List.getElem_cons_succ, List.setIfInBounds_toArray, List.set_cons_zero, List.set_cons_succ]
  refine wpAnyH_take (i := 6) (v := ?_) rfl (by kernel_rfl) (by kernel_rfl) (by kernel_rfl) (fun _ _ _ h => h) (Or.inl ⟨by kernel_rfl, ?_⟩) hH1 ?_
  rotate_left
  · (intro w hSw; (try dsimp only at hSw); go_simp; try (with_reducible rfl))
  try simp only [Act.put, List.getElem_toArray, List.getElem_cons_zero, List.getElem_cons_succ, List.setIfInBounds_toArray, List.set_cons_zero, List.set_cons_succ]
  refine wpAnyH_ready (rs := [4]) (by kernel_rfl) (by simp) ?_
  refine AllReadyH.cons rfl (fun K hK => ?_) AllReadyH.nil
  simp only [List.getElem_toArray, List.getElem_cons_zero, List.getElem_cons_succ]
  go_simp
  have HC := hid (append_ev _ g 0 0 [] _ (some (p, o, h, a, y)) p o h a y y1 HD1.out.log ⟨⟨rfl, rfl, rfl, rfl, rfl⟩, HRI.out⟩ (by decide))
  unfold evv at HC
  rw [← HRR.out] at HC
  refine HC.out.mono ?_
  rintro e y2 ⟨rfl, hst⟩
  obtain ⟨F2, hd2, ht2⟩ := HD1.out.step1 hst
  have HD2 := hid hd2
  have HX2 := hid (turn_ev ht2 HX1.out HBX.out)
  clear HC hst hd2 ht2
  refine hK.out _ _ HX2.out.1 (fun hH2 => ?_)
  clear hK K hH1
  try simp only [Act.put, List.setIfInBounds_toArray, List.set_cons_zero, List.set_cons_succ]
  refine wpAnyH_ready (rs := [7]) (by kernel_rfl) (by simp) ?_
  refine AllReadyH.cons rfl (fun K hK => ?_) AllReadyH.nil
  simp only [List.getElem_toArray, List.getElem_cons_zero, List.getElem_cons_succ]
  go_simp
  have HC := hid (rappend_ev _ (g + 1) 0 [] [] (some (p, o, h, a, y)) p o h a y y2 HD2.out.ref ⟨⟨rfl, rfl, rfl, rfl, rfl⟩, HRI.out⟩ (by simp))
  unfold evv at HC
  rw [← HRR.out] at HC
  refine HC.out.mono ?_
  rintro e y3 ⟨rfl, hst⟩
  obtain ⟨G2, hd3, ht3⟩ := HD2.out.step2 hst
  have HD3 := hid hd3
  have HX3 := hid (turn_ev ht3 HX2.out HBM.out)
  clear HC hst hd3 ht3
  refine hK.out _ _ HX3.out.1 (fun hH3 => ?_)
  clear hK K hH2
  try simp only [Act.put, List.setIfInBounds_toArray, List.set_cons_zero, List.set_cons_succ]
  refine wpAnyH_take (i := 8) (v := ?_) rfl (by kernel_rfl) (by kernel_rfl) (by kernel_rfl) (fun _ _ _ h => h) (Or.inl ⟨by kernel_rfl, ?_⟩) hH3 ?_
  rotate_left
  · (intro w hSw; (try dsimp only at hSw); go_simp; try (with_reducible rfl))
  try simp only [Act.put, List.getElem_toArray, List.getElem_cons_zero, List.getElem_cons_succ, List.setIfInBounds_toArray, List.set_cons_zero, List.set_cons_succ]
  refine wpAnyH_take (i := 9) (v := ?_) rfl (by kernel_rfl) (by kernel_rfl) (by kernel_rfl) (fun _ _ _ h => h) (Or.inl ⟨by kernel_rfl, ?_⟩) hH3 ?_
  rotate_left
  · (intro w hSw; (try dsimp only at hSw); go_simp; try (with_reducible rfl))
  try simp only [Act.put, List.getElem_toArray, List.getElem_cons_zero, List.getElem_cons_succ, List.setIfInBounds_toArray, List.set_cons_zero, List.set_cons_succ]
  refine wpAnyH_take (i := 10) (v := ?_) rfl (by kernel_rfl) (by kernel_rfl) (by kernel_rfl) (fun _ _ _ h => h) (Or.inl ⟨by kernel_rfl, ?_⟩) hH3 ?_
  rotate_left
  · (intro w hSw; (try dsimp only at hSw); go_simp; try (with_reducible rfl))
  try simp only [Act.put, List.getElem_toArray, List.getElem_cons_zero, List.getElem_cons_succ, List.setIfInBounds_toArray, List.set_cons_zero, List.set_cons_succ]
  refine wpAnyH_take (i := 11) (v := ?_) rfl (by kernel_rfl) (by kernel_rfl) (by kernel_rfl) (fun _ _ _ h => h) (Or.inl ⟨by kernel_rfl, ?_⟩) hH3 ?_
  rotate_left
  · (intro w hSw; (try dsimp only at hSw); go_simp; try (with_reducible rfl))
  try simp only [Act.put, List.getElem_toArray, List.getElem_cons_zero, List.getElem_cons_succ, List.setIfInBounds_toArray, List.set_cons_zero, List.set_cons_succ]
  refine wpAnyH_take (i := 12) (v := ?_) rfl (by kernel_rfl) (by kernel_rfl) (by kernel_rfl) (fun _ _ _ h => h) (Or.inl ⟨by kernel_rfl, ?_⟩) hH3 ?_
  rotate_left
  · (intro w hSw; (try dsimp only at hSw); go_simp; try (with_reducible rfl))
  try simp only [Act.put, List.getElem_toArray, List.getElem_cons_zero, List.getElem_cons_succ, List.setIfInBounds_toArray, List.set_cons_zero, List.set_cons_succ]
  refine wpAnyH_take (i := 13) (v := ?_) rfl (by kernel_rfl) (by kernel_rfl) (by kernel_rfl) (fun _ _ _ h => h) (Or.inl ⟨by kernel_rfl, ?_⟩) hH3 ?_
  rotate_left
  · (intro w hSw; (try dsimp only at hSw); go_simp; try (with_reducible rfl))
  try simp only [Act.put, List.getElem_toArray, List.getElem_cons_zero, List.getElem_cons_succ, List.setIfInBounds_toArray, List.set_cons_zero, List.set_cons_succ]
  refine wpAnyH_ready (rs := [14]) (by kernel_rfl) (by simp) ?_
  refine AllReadyH.cons rfl (fun K hK => ?_) AllReadyH.nil
  simp only [List.getElem_toArray, List.getElem_cons_zero, List.getElem_cons_succ]
  go_simp
  have HC := hid (alike_any (some ⟨g, 0, none⟩) 0 _ (fun z => misN [] z) _ (g + 1) [] z y3 (.inr ⟨g, F2, _, rfl, HD3.out.log, by decide⟩) HD3.out.ref rfl (by simp) HZW.out)
  refine HC.out.mono ?_
  rintro e y4 ⟨rfl, hby⟩
  have HX4 := hid (ev_keep HX3.out hby)
  have HD4 := hid (HD3.out.below hby)
  clear HC hby
  refine hK.out _ _ HX4.out.1 (fun hH4 => ?_)
  clear hK K hH3
  try simp only [Act.put, List.setIfInBounds_toArray, List.set_cons_zero, List.set_cons_succ]
  refine wpAnyH_take (i := 15) (v := ?_) rfl (by kernel_rfl) (by kernel_rfl) (by kernel_rfl) (fun _ _ _ h => h) (Or.inl ⟨by kernel_rfl, ?_⟩) hH4 ?_
  rotate_left
  · (intro w hSw; (try dsimp only at hSw); go_simp; try (with_reducible rfl))
  try simp only [Act.put, List.getElem_toArray, List.getElem_cons_zero, List.getElem_cons_succ, List.setIfInBounds_toArray, List.set_cons_zero, List.set_cons_succ]
  refine wpAnyH_take (i := 16) (v := ?_) rfl (by kernel_rfl) (by kernel_rfl) (by kernel_rfl) (fun _ _ _ h => h) (Or.inl ⟨by kernel_rfl, ?_⟩) hH4 ?_
  rotate_left
  · (intro w hSw; (try dsimp only at hSw); go_simp; try (with_reducible rfl))
  try simp only [Act.put, List.getElem_toArray, List.getElem_cons_zero, List.getElem_cons_succ, List.setIfInBounds_toArray, List.set_cons_zero, List.set_cons_succ]
  refine wpAnyH_done (by kernel_rfl) ?_ _
  refine NoPanic.normal ?_
  clear hH4
  go_wp2_with fail
  go_ret
  exact ⟨rfl, HWX.out.trans (HD4.out.turn.below HWX.out.size fun k hk e => by have := HG.out; have := HB4.out.size; have := HB2.out.size; omega)⟩
theorem none_walk (A : Option Addr) (n c : Nat) (zs : List Int) (cap : Int) (nr : Nat) (z : Int) (w : World) (hnr : nr < 256) (hz : ∀ z ∈ zs, 0 ≤ z ∧ z < 65536) (hn : zs.length = n) (hc : n ≤ c) (hs : Sl w w.heap.size A (nums .u16 zs)) (hzw : (Lit.int .i64 z).wf = true) :
    Calls Try.prog 8 #[.int .i64 cap, .int .u8 nr, .slice A n c, .int .i64 z] w fun e w' => e = .returned (.bool true) ∧ Below w.heap.size w w' := by
  by_cases h1 : cap < 0
  · by_cases h2 : nr % 3 < 2
    · exact none_c A n c zs cap nr z w h1 hnr h2 hz hn hc hs hzw
    · exact none_d A n c zs cap nr z w h1 hnr h2 hz hn hc hs hzw
  · by_cases h3 : 65536 < cap
    · by_cases h2 : nr % 3 < 2
      · exact none_e A n c zs cap nr z w h3 hnr h2 hz hn hc hs hzw
      · exact none_f A n c zs cap nr z w h3 hnr h2 hz hn hc hs hzw
    · obtain ⟨cap, rfl⟩ := Int.eq_ofNat_of_zero_le (show 0 ≤ cap by omega)
      by_cases h2 : nr % 3 < 2
      · exact none_a A n c zs cap nr z w (by omega) hnr h2 hz hn hc hs hzw
      · exact none_b A n c zs cap nr z w (by omega) hnr h2 hz hn hc hs hzw
end Go.Proofs.Ytmhmaodnkifcaaa
