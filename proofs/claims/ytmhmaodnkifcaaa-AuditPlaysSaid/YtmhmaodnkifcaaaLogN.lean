/-
  New, Len, Digest, Records, Room of the log.
-/
import Derived.Test.YtmhmaodnkifcaaaLog
namespace Go.Proofs.Ytmhmaodnkifcaaa
open Go.RowKit
set_option linter.unusedSimpArgs false
set_option linter.unusedVariables false

set_option maxRecDepth 100000 in
theorem new_ok (cap : Nat) (w : World) (hc : cap ≤ 65536) :
    Calls Try.prog 13 #[.int .i64 cap] w fun e w' => ∃ g, g = w.heap.size ∧ e = .returned (.tuple #[.pointer (some ⟨g, 0, none⟩), .int .i64 0]) ∧ LogAt w' (fun k => k = g) g cap [] (fun _ => 0) 0 ∧ Below w.heap.size w w' := by
  go_enter Try.func13, Try.ntmps13
  go_wp2
  go_ret2
  refine ⟨w.heap.size, rfl, rfl, ⟨none, 0, none, 0, 0, none, none, heap_alloc_new w _, World.ownsRow_nil _ _ _ _, World.ownsRow_nil _ _ _ _, fun h => absurd rfl h, ⟨fun _ => Nat.zero_le _, fun _ => rfl⟩, ⟨fun _ => Nat.le_refl _, fun _ => rfl⟩, fun _ h => (by cases h), fun _ h => (by simp at h), Nat.le_refl _, hc, rfl, fun _ h => (by cases h), fun _ h => (by cases h), fun _ h => (by cases h), fun _ h => (by cases h), fun b h => by subst h; simp⟩, below_new _ _ _⟩
set_option maxRecDepth 100000 in
theorem len_any (F : Nat → Prop) (g cap q : Nat) (es : List Ev) (f mis : Int → Nat) (w : World) (h : LogF w F g cap es f mis q) :
    Calls Try.prog 33 #[.pointer (some ⟨g, 0, none⟩)] w fun e w' => e = .returned (.int .i64 es.length) ∧ w' = w := by
  obtain ⟨A1, c1, A2, c2, d, m4, m5, hb, _⟩ := h
  have h1 := hb.cell 1 rfl
  clear hb
  go_enter Try.func33, Try.ntmps33
  go_wp2
  go_ret
  exact ⟨rfl, rfl⟩
set_option maxRecDepth 100000 in
theorem digest_any (F : Nat → Prop) (g cap q : Nat) (es : List Ev) (f mis : Int → Nat) (w : World) (h : LogF w F g cap es f mis q) :
    Calls Try.prog 22 #[.pointer (some ⟨g, 0, none⟩)] w fun e w' => e = .returned (.int .u64 (endD fStart es)) ∧ w' = w := by
  have HL := hid (len_any F g cap q es f mis w h)
  have H0 := hid (sum_any none 0 0 0 [] w rfl (.inl rfl) (by decide))
  obtain ⟨A1, c1, A2, c2, d, m4, m5, hb, _, _, hd, _⟩ := h
  have h3 := hb.cell 3 rfl
  clear hb
  go_enter Try.func22, Try.ntmps22
  go_wp2_with fail
  refine HL.out.mono ?_
  rintro e w1 ⟨rfl, rfl⟩
  by_cases he : es = []
  · subst he
    go_wp2_with fail
    refine H0.out.mono ?_
    rintro e w1 ⟨rfl, rfl⟩
    go_wp2
    go_ret
    exact ⟨by rw [fnv_nil]; simp [endD, lastd_nil], rfl⟩
  · have hn : es.length ≠ 0 := fun h => he (List.eq_nil_of_length_eq_zero h)
    obtain rfl := hd he
    go_wp2
    go_ret
    exact ⟨rfl, rfl⟩
set_option maxRecDepth 100000 in
theorem records_any (F : Nat → Prop) (g cap q : Nat) (es : List Ev) (f mis : Int → Nat) (k : Int) (w : World) (h : LogF w F g cap es f mis q) (hk : (Lit.int .i64 k).wf = true) :
    Calls Try.prog 21 #[.pointer (some ⟨g, 0, none⟩), .int .i64 k] w fun e w' => e = .returned (.int .i64 (f k)) ∧ w' = w := by
  obtain ⟨A1, c1, A2, c2, d, m4, m5, hb, _, _, hd, hM, _⟩ := h
  have h4 := hb.cell 4 rfl
  have hkey := Maps.keyOf_int_mk Try.underlying3 hk
  clear hb
  go_enter Try.func21, Try.ntmps21
  have hlk : ∀ W : World, (Instr.lookup 32 (.map none) (.int .i64 k) false).run Try.prog W = .ok (.int .i64 0) W := fun W => by kernel_rfl
  cases m4 with
  | none =>
    have h0 := hM.2 k
    go_wp2_with fail
    go_ret
    exact ⟨by rw [h0]; rfl, rfl⟩
  | some b =>
    obtain ⟨hfq, n, D, hn, hown, hD, hat0⟩ := hM
    go_wp2_with (at_lookup; refine wpList_lookup_own_int _ rfl _ _ 32 rfl 3 3 .i64 (Maps.int_keyed Try.underlying3) Try.underlying32 Try.underlying3 (Try.zeroValue3 _) b n _ rfl hown _ _ rfl hkey ?_; intro c hat hwc)
    obtain rfl : c = (f k : Int) := by
      have h1 := hat.symm.trans (hat0 k)
      injection h1 with h1
      injection h1 with _ h1
    go_ret
    exact ⟨rfl, rfl⟩
set_option maxRecDepth 100000 in
theorem room_any (F : Nat → Prop) (g cap q : Nat) (es : List Ev) (f mis : Int → Nat) (k : Int) (w : World) (h : LogF w F g cap es f mis q) (hk : (Lit.int .i64 k).wf = true) :
    Calls Try.prog 20 #[.pointer (some ⟨g, 0, none⟩), .int .i64 k] w fun e w' => e = .returned (.bool (decide (f k < cap))) ∧ Below w.heap.size w w' := by
  have HR := hid (fun W hW => records_any F g cap q es f mis k W hW hk)
  have HL := hid h
  obtain ⟨A1, c1, A2, c2, d, m4, m5, hb, _⟩ := h
  have h0 : w.cell? ⟨g, 0, none⟩ = some (.int .i64 cap) := hb.cell 0 rfl
  clear hb
  go_enter Try.func20, Try.ntmps20
  go_wp2_with fail
  refine wp_region_noPanic ?_
  refine wp_region_held_drew (S := (fun W => W.cell? ⟨g, 0, none⟩ = some (.int .i64 cap))) (by kernel_rfl) h0 (fun hH0 => ?_)
  refine wpAnyH_take (i := 0) (v := ?_) rfl (by kernel_rfl) (by kernel_rfl) (by kernel_rfl) (fun _ _ _ h => h) (Or.inl ⟨by rfl, ?_⟩) hH0 ?_
  rotate_left
  · (intro w hSw; (try dsimp only at hSw); go_simp; try (with_reducible rfl))
  try simp only [Act.put, List.getElem_toArray, List.getElem_cons_zero, List.setIfInBounds_toArray, List.set_cons_zero, List.set_cons_succ]
  refine wpAnyH_take (i := 1) (v := ?_) rfl (by kernel_rfl) (by kernel_rfl) (by kernel_rfl) (fun _ _ _ h => h) (Or.inl ⟨by rfl, ?_⟩) hH0 ?_
  rotate_left
  · (intro w hSw; (try dsimp only at hSw); go_simp; try (with_reducible rfl))
  try simp only [Act.put, List.getElem_toArray, List.getElem_cons_zero, List.getElem_cons_succ, List.setIfInBounds_toArray, List.set_cons_zero, List.set_cons_succ]
  refine wpAnyH_take (i := 2) (v := ?_) rfl (by kernel_rfl) (by kernel_rfl) (by kernel_rfl) (fun _ _ _ h => h) (Or.inl ⟨by rfl, ?_⟩) hH0 ?_
  rotate_left
  · (intro w hSw; (try dsimp only at hSw); go_simp; try (with_reducible rfl))
  try simp only [Act.put, List.getElem_toArray, List.getElem_cons_zero, List.getElem_cons_succ, List.setIfInBounds_toArray, List.set_cons_zero, List.set_cons_succ]
  refine wpAnyH_take (i := 3) (v := ?_) rfl (by kernel_rfl) (by kernel_rfl) (by kernel_rfl) (fun _ _ _ h => h) (Or.inl ⟨by rfl, ?_⟩) hH0 ?_
  rotate_left
  · (intro w hSw; (try dsimp only at hSw); go_simp; try (with_reducible rfl))
  try simp only [Act.put, List.getElem_toArray, List.getElem_cons_zero, List.getElem_cons_succ, List.setIfInBounds_toArray, List.set_cons_zero, List.set_cons_succ]
  refine wpAnyH_take (i := 4) (v := ?_) rfl (by kernel_rfl) (by kernel_rfl) (by kernel_rfl) (fun _ _ _ h => h) (Or.inl ⟨by rfl, ?_⟩) hH0 ?_
  rotate_left
  · (intro w hSw; (try dsimp only at hSw); go_simp; try (with_reducible rfl))
  try simp only [Act.put, List.getElem_toArray, List.getElem_cons_zero, List.getElem_cons_succ, List.setIfInBounds_toArray, List.set_cons_zero, List.set_cons_succ]
  refine wpAnyH_take (i := 6) (v := ?_) rfl (by kernel_rfl) (by kernel_rfl) (by kernel_rfl) (fun _ _ _ h => h) (Or.inl ⟨by rfl, ?_⟩) hH0 ?_
  rotate_left
  · (intro w hSw; (try dsimp only at hSw); go_simp; try (with_reducible rfl))
  try simp only [Act.put, List.getElem_toArray, List.getElem_cons_zero, List.getElem_cons_succ, List.setIfInBounds_toArray, List.set_cons_zero, List.set_cons_succ]
  refine wpAnyH_take (i := 7) (v := ?_) rfl (by kernel_rfl) (by kernel_rfl) (by kernel_rfl) (fun _ _ _ h => h) (Or.inl ⟨by rfl, ?_⟩) hH0 ?_
  rotate_left
  · (intro w hSw; (try dsimp only at hSw); go_simp; try (with_reducible rfl))
  try simp only [Act.put, List.getElem_toArray, List.getElem_cons_zero, List.getElem_cons_succ, List.setIfInBounds_toArray, List.set_cons_zero, List.set_cons_succ]
  refine wpAnyH_take (i := 8) (v := ?_) rfl (by kernel_rfl) (by kernel_rfl) (by kernel_rfl) (fun _ _ _ h => h) (Or.inl ⟨by rfl, ?_⟩) hH0 ?_
  rotate_left
  · (intro w hSw; (try dsimp only at hSw); go_simp; try (with_reducible rfl))
  try simp only [Act.put, List.getElem_toArray, List.getElem_cons_zero, List.getElem_cons_succ, List.setIfInBounds_toArray, List.set_cons_zero, List.set_cons_succ]
  refine wpAnyH_take (i := 9) (v := ?_) rfl (by kernel_rfl) (by kernel_rfl) (by kernel_rfl) (fun _ _ _ h => h) (Or.inl ⟨by rfl, ?_⟩) hH0 ?_
  rotate_left
  · (intro w hSw; (try dsimp only at hSw); go_simp; try (with_reducible rfl))
  try simp only [Act.put, List.getElem_toArray, List.getElem_cons_zero, List.getElem_cons_succ, List.setIfInBounds_toArray, List.set_cons_zero, List.set_cons_succ]
  refine wpAnyH_ready (rs := [5]) (by kernel_rfl) (by simp) ?_
  refine AllReadyH.cons rfl (fun K hK => ?_) AllReadyH.nil
  simp only [List.getElem_toArray, List.getElem_cons_zero, List.getElem_cons_succ]
  go_simp
  refine (HR.out w.drew (HL.out.below ((Below.refl _ _).drew))).mono ?_
  rintro e w1 ⟨rfl, rfl⟩
  refine hK.out _ _ hH0 (fun hH1 => ?_)
  clear hK K hH0
  try simp only [Act.put, List.setIfInBounds_toArray, List.set_cons_zero, List.set_cons_succ]
  refine wpAnyH_take (i := 10) (v := ?_) rfl (by kernel_rfl) (by kernel_rfl) (by kernel_rfl) (fun _ _ _ h => h) (Or.inl ⟨by rfl, ?_⟩) hH1 ?_
  rotate_left
  · (intro w hSw; (try dsimp only at hSw); go_simp; try (with_reducible rfl))
  try simp only [Act.put, List.getElem_toArray, List.getElem_cons_zero, List.getElem_cons_succ, List.setIfInBounds_toArray, List.set_cons_zero, List.set_cons_succ]
  refine wpAnyH_take (i := 11) (v := ?_) rfl (by kernel_rfl) (by kernel_rfl) (by kernel_rfl) (fun _ _ _ h => h) (Or.inl ⟨by rfl, ?_⟩) hH1 ?_
  rotate_left
  · (intro w hSw; (try dsimp only at hSw); go_simp; try (with_reducible rfl))
  try simp only [Act.put, List.getElem_toArray, List.getElem_cons_zero, List.getElem_cons_succ, List.setIfInBounds_toArray, List.set_cons_zero, List.set_cons_succ]
  refine wpAnyH_take (i := 12) (v := ?_) rfl (by kernel_rfl) (by kernel_rfl) (by kernel_rfl) (fun _ _ _ h => h) (Or.inl ⟨by rfl, ?_⟩) hH1 ?_
  rotate_left
  · (intro w hSw; (try dsimp only at hSw); go_simp; try (with_reducible rfl))
  try simp only [Act.put, List.getElem_toArray, List.getElem_cons_zero, List.getElem_cons_succ, List.setIfInBounds_toArray, List.set_cons_zero, List.set_cons_succ]
  refine wpAnyH_done (by kernel_rfl) ?_ _
  refine NoPanic.normal ?_
  go_wp2
  go_ret
  exact ⟨rfl, (Below.refl _ _).drew⟩
end Go.Proofs.Ytmhmaodnkifcaaa
