/-
  The tape of the laws: Event: an event that is right, whatever the tape.
-/
import Derived.Test.YtmhmaodnkifcaaaTapeWord
import Derived.Test.YtmhmaodnkifcaaaEvEnc
import Derived.Test.YtmhmaodnkifcaaaRSum
namespace Go.Proofs.Ytmhmaodnkifcaaa
open Go.RowKit
set_option linter.unusedSimpArgs false
set_option linter.unusedVariables false

/-- A block of cells. -/
def Blk (w : World) (B : Nat) (cs : Array Value) (t : TypeId) : Prop := w.heap[B]? = some (.cells cs t (0, 0))
theorem Blk.cell {w : World} {B : Nat} {cs : Array Value} {t : TypeId} (h : Blk w B cs t) (k : Nat) {v : Value} (hv : cs[k]? = some v) : w.cell? ⟨B, k, none⟩ = some v := by simp [World.cell?, show w.heap[B]? = _ from h, hv]
theorem Blk.frozen {w : World} {B : Nat} {cs : Array Value} {t : TypeId} (h : Blk w B cs t) (k : Nat) : w.frozen? ⟨B, k, none⟩ = false := by simp [World.frozen?, show w.heap[B]? = _ from h]
theorem Blk.set {w : World} {B : Nat} {cs : Array Value} {t : TypeId} (h : Blk w B cs t) (k : Nat) (v : Value) : Blk (w.setCell ⟨B, k, none⟩ v) B (cs.setIfInBounds k v) t := by
  obtain ⟨hlt, hk⟩ := Array.getElem?_eq_some_iff.1 h
  show (w.heap.modify B _)[B]? = _
  rw [Array.getElem?_eq_getElem (by rw [Array.size_modify]; exact hlt), Array.getElem_modify_self, hk]
  rfl
theorem Blk.lt {w : World} {B : Nat} {cs : Array Value} {t : TypeId} (h : Blk w B cs t) : B < w.heap.size := (Array.getElem?_eq_some_iff.1 h).1
theorem Blk.go {w w' : World} {B g : Nat} {cs : Array Value} {t : TypeId} (h : Blk w B cs t) (hg : w.grownBy w' (some g)) (hne : g < B) : Blk w' B cs t :=
  (hg.block B h.lt (fun e => by simp at e; omega)).trans h
theorem Blk.below {w w' : World} {B : Nat} {cs : Array Value} {t : TypeId} (h : Blk w B cs t) (hb : Below w.heap.size w w') : Blk w' B cs t := (hb.block B h.lt).trans h
theorem Blk.other {w : World} {B b k : Nat} {cs : Array Value} {t : TypeId} {v : Value} (h : Blk w B cs t) (hne : B ≠ b) : Blk (w.setCell ⟨b, k, none⟩ v) B cs t := (Below.heap_setCell _ _ _ B hne).trans h

/-- The operations that Event draws from. -/
def opsF (r : Nat) : Nat := [32, 1, 2, 3, 4, 8, 9, 10, 11, 33, 7, 5, 6].getD r 0
theorem opsF_ok (r : Nat) (h : r < 13) : (1 ≤ opsF r ∧ opsF r ≤ 11) ∨ opsF r = 32 ∨ opsF r = 33 := by
  rcases (show r = 0 ∨ r = 1 ∨ r = 2 ∨ r = 3 ∨ r = 4 ∨ r = 5 ∨ r = 6 ∨ r = 7 ∨ r = 8 ∨ r = 9 ∨ r = 10 ∨ r = 11 ∨ r = 12 by omega) with rfl | rfl | rfl | rfl | rfl | rfl | rfl | rfl | rfl | rfl | rfl | rfl | rfl <;> decide
abbrev OpsAt (w : World) (ob : Nat) : Prop := Blk w ob #[.int .i64 32, .int .i64 1, .int .i64 2, .int .i64 3, .int .i64 4, .int .i64 8, .int .i64 9, .int .i64 10, .int .i64 11, .int .i64 33, .int .i64 7, .int .i64 5, .int .i64 6] 3
theorem ops_cell {w : World} {ob r : Nat} (h : OpsAt w ob) (hr : r < 13) : w.cell? ⟨ob, r, none⟩ = some (.int .i64 (opsF r : Int)) := by
  rcases (show r = 0 ∨ r = 1 ∨ r = 2 ∨ r = 3 ∨ r = 4 ∨ r = 5 ∨ r = 6 ∨ r = 7 ∨ r = 8 ∨ r = 9 ∨ r = 10 ∨ r = 11 ∨ r = 12 by omega) with rfl | rfl | rfl | rfl | rfl | rfl | rfl | rfl | rfl | rfl | rfl | rfl | rfl <;> exact h.cell _ rfl
/-- What stays while Event draws: the tape, the result's block, the operations. -/
structure St (w : World) (lo hi g n j : Nat) (W : World) : Prop where
  tp : Tp W lo hi g n j
  grown : w.grownBy W (some g)
  res : Blk W w.heap.size #[.int .i64 0, .int .i64 0, .int .u64 0, .int .u64 0, .int .i64 0] 36
  ops : OpsAt W (w.heap.size + 1)
  ge : w.heap.size + 2 ≤ W.heap.size
  gw : hi ≤ w.heap.size ∧ g < hi
theorem St.next {w W W' : World} {lo hi g n j j' : Nat} (h : St w lo hi g n j W) (ht : Tp W' lo hi g n j') (hg : W.grownBy W' (some g)) : St w lo hi g n j' W' := by
  have := h.gw
  exact ⟨ht, grown_go h.grown hg, h.res.go hg (by omega), h.ops.go hg (by omega), Nat.le_trans h.ge hg.size, h.gw⟩
theorem St.below {w W W' : World} {lo hi g n j : Nat} (h : St w lo hi g n j W) (hb : Below W.heap.size W W') : St w lo hi g n j W' := h.next (h.tp.below hb) (grown_of hb _)
theorem St.alloc {w W : World} {lo hi g n j : Nat} (h : St w lo hi g n j W) (o : Obj) : St w lo hi g n j (W.alloc o) := h.below ((Below.refl _ _).alloc (Nat.le_refl _) _)
theorem St.set {w W : World} {lo hi g n j B : Nat} (h : St w lo hi g n j W) (hB : w.heap.size + 2 ≤ B) (k : Nat) (v : Value) : St w lo hi g n j (W.setCell ⟨B, k, none⟩ v) := by
  have := h.gw
  refine ⟨h.tp.kept (fun q h1 h2 => Below.heap_setCell _ _ _ q (by simp; omega)) (by rw [heap_set]; exact Nat.le_refl _), ?_, h.res.other (by omega), h.ops.other (by omega), by rw [heap_set]; exact h.ge, h.gw⟩
  have g := h.grown
  exact ⟨g.os, g.tape, g.output, by rw [heap_set]; exact g.size, fun q hq hne => (Below.heap_setCell _ _ _ q (by simp; omega)).trans (g.block q hq hne)⟩

theorem evok_made (r1 r2 x : Nat) (h1 : r1 < 3) (h2 : r2 < 13) (hx : x ≤ 29) : EvOK ((1 + r1 : Nat) : Int) (opsF r2) (x : Nat) := by
  have := opsF_ok r2 h2
  unfold EvOK
  omega
theorem okset {w W : World} {lo hi g n j B k : Nat} {v : Value} (h : Tp W lo hi g n j ∧ w.grownBy W (some g)) (hh : hi ≤ w.heap.size) (hB : w.heap.size ≤ B) : Tp (W.setCell ⟨B, k, none⟩ v) lo hi g n j ∧ w.grownBy (W.setCell ⟨B, k, none⟩ v) (some g) := by
  refine ⟨h.1.kept (fun q h1 h2 => Below.heap_setCell _ _ _ q (by simp; omega)) (by rw [heap_set]; exact Nat.le_refl _), ?_⟩
  have g := h.2
  exact ⟨g.os, g.tape, g.output, by rw [heap_set]; exact g.size, fun q hq hne => (Below.heap_setCell _ _ _ q (by simp; omega)).trans (g.block q hq hne)⟩
theorem one_byte (w : World) (r : Nat) (h : r < 256) : Sl (w.alloc (.cells #[.int .u8 (r : Int)] 5)) (w.heap.size + 1) (some ⟨w.heap.size, 0, none⟩) (bys [UInt8.ofNat r]) := by
  have := Sl.new w #[.int .u8 (r : Int)] 5 (0, 0)
  have e : bys [UInt8.ofNat r] = [.int .u8 (r : Int)] := by
    simp [bys, u8v, Nat.mod_eq_of_lt h]
  rw [e]
  exact this
/-- What Event returns. -/
def EvMade (w : World) (lo hi g n i : Nat) (e : Ending) (w' : World) : Prop :=
  ∃ p o h a x i' : Nat, e = .returned (evv p o h a x) ∧ EvOK p o x ∧ p ≤ 3 ∧ h < 18446744073709551616 ∧ a < 18446744073709551616 ∧ i < i' ∧ i' ≤ i + 20 ∧ Tp w' lo hi g n i' ∧ w.grownBy w' (some g)

theorem St.made {w W W' : World} {lo hi g n i j p o h a x : Nat} (_st : St w lo hi g n j W) (hp : p ≤ 3) (ok : EvOK p o x) (hh : h < 18446744073709551616) (ha : a < 18446744073709551616) (h1 : i < j) (h2 : j ≤ i + 20)
    (hW : (Tp W lo hi g n j ∧ w.grownBy W (some g)) → (Tp W' lo hi g n j ∧ w.grownBy W' (some g))) : EvMade w lo hi g n i (.returned (evv p o h a x)) W' := by
  obtain ⟨q1, q2⟩ := hW ⟨_st.tp, _st.grown⟩
  exact ⟨p, o, h, a, x, j, rfl, ok, hp, hh, ha, h1, h2, q1, q2⟩

set_option maxRecDepth 100000 in
set_option maxHeartbeats 4000000 in
theorem event_any (lo hi g n i : Nat) (w : World) (h : Tp w lo hi g n i) (hi2 : i < 10000000) :
    Calls Try.prog 23 #[.pointer (some ⟨g, 0, none⟩)] w (EvMade w lo hi g n i) := by
  have hghi : hi ≤ w.heap.size ∧ g < hi := by obtain ⟨A, c, _, _, _, _, h1, h2, _⟩ := h; exact ⟨h2, h1⟩
  obtain ⟨w0, hw0⟩ : ∃ w0, w0 = ((w.alloc (.cells #[.int .i64 0, .int .i64 0, .int .u64 0, .int .u64 0, .int .i64 0] 36)).alloc (.cells #[.int .i64 32, .int .i64 1, .int .i64 2, .int .i64 3, .int .i64 4, .int .i64 8, .int .i64 9, .int .i64 10, .int .i64 11, .int .i64 33, .int .i64 7, .int .i64 5, .int .i64 6] 3)) := ⟨_, rfl⟩
  have HW := hid hw0
  have HST0 := hid (show St w lo hi g n i w0 by
    rw [hw0]
    have hb := below_go (below_new w #[.int .i64 0, .int .i64 0, .int .u64 0, .int .u64 0, .int .i64 0] 36) (below_new (w.alloc (.cells #[.int .i64 0, .int .i64 0, .int .u64 0, .int .u64 0, .int .i64 0] 36)) #[.int .i64 32, .int .i64 1, .int .i64 2, .int .i64 3, .int .i64 4, .int .i64 8, .int .i64 9, .int .i64 10, .int .i64 11, .int .i64 33, .int .i64 7, .int .i64 5, .int .i64 6] 3)
    refine ⟨h.below hb, grown_of hb _, ?_, ?_, by simp, hghi⟩
    · exact Blk.below (show Blk (w.alloc (.cells #[.int .i64 0, .int .i64 0, .int .u64 0, .int .u64 0, .int .i64 0] 36)) w.heap.size #[.int .i64 0, .int .i64 0, .int .u64 0, .int .u64 0, .int .i64 0] 36 from heap_alloc_new w _) (below_new _ _ _)
    · have := heap_alloc_new (w.alloc (.cells #[.int .i64 0, .int .i64 0, .int .u64 0, .int .u64 0, .int .i64 0] 36)) (.cells #[.int .i64 32, .int .i64 1, .int .i64 2, .int .i64 3, .int .i64 4, .int .i64 8, .int .i64 9, .int .i64 10, .int .i64 11, .int .i64 33, .int .i64 7, .int .i64 5, .int .i64 6] 3)
      simp only [World.size_alloc] at this
      exact this)
  have HG := hid (show g < w.heap.size by omega)
  clear h hghi hw0
  go_enter Try.func23, Try.ntmps23
  go_wp2_with fail
  simp only [← HW.out]
  clear HW
  refine wp_region_noPanic ?_
  refine wp_region_held_drew (S := fun W => OpsAt W (w.heap.size + 1)) (by kernel_rfl) HST0.out.ops (fun hH0 => ?_)
  obtain ⟨w1, hw1⟩ : ∃ w1, w1 = w0.drew := ⟨_, rfl⟩
  have HST1 := hid (show St w lo hi g n i w1 by rw [hw1]; exact HST0.out.below (Below.refl _ _).drew)
  simp only [← hw1] at hH0 ⊢
  clear hw1 HST0
  refine wpAnyH_take (i := 0) (v := ?_) rfl (by kernel_rfl) (by kernel_rfl) (by kernel_rfl) (fun _ _ _ h => h) (Or.inl ⟨by rfl, ?_⟩) hH0 ?_
  rotate_left
  · (intro w hSw; go_simp; try (with_reducible rfl))
  try simp only [Act.put, List.getElem_toArray, List.getElem_cons_zero, List.setIfInBounds_toArray, List.set_cons_zero, List.set_cons_succ]
  refine wpAnyH_take (i := 3) (v := ?_) rfl (by kernel_rfl) (by kernel_rfl) (by kernel_rfl) (fun _ _ _ h => h) (Or.inl ⟨by rfl, ?_⟩) hH0 ?_
  rotate_left
  · (intro w hSw; go_simp; try (with_reducible rfl))
  try simp only [Act.put, List.getElem_toArray, List.getElem_cons_zero, List.getElem_cons_succ, List.setIfInBounds_toArray, List.set_cons_zero, List.set_cons_succ]
  refine wpAnyH_take (i := 4) (v := ?_) rfl (by kernel_rfl) (by kernel_rfl) (by kernel_rfl) (fun _ _ _ h => h) (Or.inl ⟨by rfl, ?_⟩) hH0 ?_
  rotate_left
  · (intro w hSw; go_simp; try (with_reducible rfl))
  try simp only [Act.put, List.getElem_toArray, List.getElem_cons_zero, List.getElem_cons_succ, List.setIfInBounds_toArray, List.set_cons_zero, List.set_cons_succ]
  refine wpAnyH_take (i := 8) (v := ?_) rfl (by kernel_rfl) (by kernel_rfl) (by kernel_rfl) (fun _ _ _ h => h) (Or.inl ⟨by rfl, ?_⟩) hH0 ?_
  rotate_left
  · (intro w hSw; go_simp; try (with_reducible rfl))
  try simp only [Act.put, List.getElem_toArray, List.getElem_cons_zero, List.getElem_cons_succ, List.setIfInBounds_toArray, List.set_cons_zero, List.set_cons_succ]
  refine wpAnyH_take (i := 10) (v := ?_) rfl (by kernel_rfl) (by kernel_rfl) (by kernel_rfl) (fun _ _ _ h => h) (Or.inl ⟨by rfl, ?_⟩) hH0 ?_
  rotate_left
  · (intro w hSw; go_simp; try (with_reducible rfl))
  try simp only [Act.put, List.getElem_toArray, List.getElem_cons_zero, List.getElem_cons_succ, List.setIfInBounds_toArray, List.set_cons_zero, List.set_cons_succ]
  refine wpAnyH_ready (rs := [1, 14]) (by kernel_rfl) (by simp) ?_
  refine AllReadyH.cons rfl (fun K hK => ?_) (AllReadyH.cons rfl (fun K hK => ?_) AllReadyH.nil)
  · simp only [List.getElem_toArray, List.getElem_cons_zero, List.getElem_cons_succ]
    go_simp
    refine (next_any lo hi g n _ 3 w1 HST1.out.tp (by omega) (by omega) (by omega)).mono ?_
    rintro e w2 ⟨r1, hr1, rfl, ht, hg⟩
    have hq1 : wrap64 (1 + (r1 : Int)) = ((1 + r1 : Nat) : Int) := by unfold wrap64; omega
    have HST2 := hid (HST1.out.next ht hg)
    refine hK.out _ _ HST2.out.ops (fun hH2 => ?_)
    clear ht hg
    try simp only [Act.put, List.setIfInBounds_toArray, List.set_cons_zero, List.set_cons_succ]
    refine wpAnyH_take (i := 2) (v := ?_) rfl (by kernel_rfl) (by kernel_rfl) (by kernel_rfl) (fun _ _ _ h => h) (Or.inl ⟨by rfl, ?_⟩) hH2 ?_
    rotate_left
    · (intro w hSw; go_simp; try (with_reducible rfl))
    try simp only [Act.put, List.getElem_toArray, List.getElem_cons_zero, List.getElem_cons_succ, List.setIfInBounds_toArray, List.set_cons_zero, List.set_cons_succ]
    refine wpAnyH_ready (rs := [5, 14]) (by kernel_rfl) (by simp) ?_
    refine AllReadyH.cons rfl (fun K hK => ?_) (AllReadyH.cons rfl (fun K hK => ?_) AllReadyH.nil)
    · simp only [List.getElem_toArray, List.getElem_cons_zero, List.getElem_cons_succ]
      go_simp
      refine (next_any lo hi g n _ 13 w2 HST2.out.tp (by omega) (by omega) (by omega)).mono ?_
      rintro e w3 ⟨r2, hr2, rfl, ht, hg⟩
      have hq2 : (r2 : Int) < 13 := by omega
      have HST3 := hid (HST2.out.next ht hg)
      refine hK.out _ _ HST3.out.ops (fun hH3 => ?_)
      clear ht hg
      try simp only [Act.put, List.setIfInBounds_toArray, List.set_cons_zero, List.set_cons_succ]
      refine wpAnyH_take (i := 6) (v := ?_) rfl (by kernel_rfl) (by kernel_rfl) (by kernel_rfl) (fun _ _ _ h => h) (Or.inl ⟨by rfl, ?_⟩) hH3 ?_
      rotate_left
      · (intro w hSw; go_simp; try (with_reducible rfl))
      try simp only [Act.put, List.getElem_toArray, List.getElem_cons_zero, List.getElem_cons_succ, List.setIfInBounds_toArray, List.set_cons_zero, List.set_cons_succ]
      refine wpAnyH_take (i := 7) (v := ?_) rfl (by kernel_rfl) (by kernel_rfl) (by kernel_rfl) (fun _ _ _ h => h) (Or.inl ⟨by rfl, ?_⟩) hH3 ?_
      rotate_left
      · (intro w hSw; have hc := ops_cell hSw hr2; go_simp; try (with_reducible rfl))
      try simp only [Act.put, List.getElem_toArray, List.getElem_cons_zero, List.getElem_cons_succ, List.setIfInBounds_toArray, List.set_cons_zero, List.set_cons_succ]
      refine wpAnyH_ready (rs := [9, 14]) (by kernel_rfl) (by simp) ?_
      refine AllReadyH.cons rfl (fun K hK => ?_) (AllReadyH.cons rfl (fun K hK => ?_) AllReadyH.nil)
      · simp only [List.getElem_toArray, List.getElem_cons_zero, List.getElem_cons_succ]
        go_simp
        refine (word_any lo hi g n _ w3 HST3.out.tp (by omega)).mono ?_
        rintro e w4 ⟨v, i', hv0, hv1, rfl, hi1, hi2', ht, hg⟩
        obtain ⟨h, rfl⟩ := Int.eq_ofNat_of_zero_le hv0
        have HST4 := hid (HST3.out.next ht hg)
        refine hK.out _ _ HST4.out.ops (fun hH4 => ?_)
        clear ht hg
        try simp only [Act.put, List.setIfInBounds_toArray, List.set_cons_zero, List.set_cons_succ]
        refine wpAnyH_ready (rs := [11, 14]) (by kernel_rfl) (by simp) ?_
        refine AllReadyH.cons rfl (fun K hK => ?_) (AllReadyH.cons rfl (fun K hK => ?_) AllReadyH.nil)
        · simp only [List.getElem_toArray, List.getElem_cons_zero, List.getElem_cons_succ]
          go_simp
          refine (next_any lo hi g n _ 4 w4 HST4.out.tp (by omega) (by omega) (by omega)).mono ?_
          rintro e w5 ⟨r4, hr4, rfl, ht, hg⟩
          have hq4 : (r4 : Int) % 18446744073709551616 = (r4 : Int) := by omega
          have HST5 := hid (HST4.out.next ht hg)
          refine hK.out _ _ HST5.out.ops (fun hH5 => ?_)
          clear ht hg
          try simp only [Act.put, List.setIfInBounds_toArray, List.set_cons_zero, List.set_cons_succ]
          refine wpAnyH_take (i := 12) (v := ?_) rfl (by kernel_rfl) (by kernel_rfl) (by kernel_rfl) (fun _ _ _ h => h) (Or.inl ⟨by rfl, ?_⟩) hH5 ?_
          rotate_left
          · (intro w hSw; go_simp; try (with_reducible rfl))
          try simp only [Act.put, List.getElem_toArray, List.getElem_cons_zero, List.getElem_cons_succ, List.setIfInBounds_toArray, List.set_cons_zero, List.set_cons_succ]
          refine wpAnyH_take (i := 13) (v := ?_) rfl (by kernel_rfl) (by kernel_rfl) (by kernel_rfl) (fun _ _ _ h => h) (Or.inl ⟨by rfl, ?_⟩) hH5 ?_
          rotate_left
          · (intro w hSw; go_simp; try (with_reducible rfl))
          try simp only [Act.put, List.getElem_toArray, List.getElem_cons_zero, List.getElem_cons_succ, List.setIfInBounds_toArray, List.set_cons_zero, List.set_cons_succ]
          refine wpAnyH_ready (rs := [14]) (by kernel_rfl) (by simp) ?_
          refine AllReadyH.cons rfl (fun K hK => ?_) AllReadyH.nil
          simp only [List.getElem_toArray, List.getElem_cons_zero, List.getElem_cons_succ]
          go_simp
          have HST6 := hid (HST5.out.alloc (.cells #[.int .i64 0, .int .i64 0, .int .u64 0, .int .u64 0, .int .i64 0] 36))
          have HBX := hid (show Blk (w5.alloc (.cells #[.int .i64 0, .int .i64 0, .int .u64 0, .int .u64 0, .int .i64 0] 36)) w5.heap.size #[.int .i64 0, .int .i64 0, .int .u64 0, .int .u64 0, .int .i64 0] 36 from heap_alloc_new w5 _)
          have HBS := hid HST5.out.ge
          obtain ⟨B, hB⟩ : ∃ B, B = w5.heap.size := ⟨_, rfl⟩
          have hgB : g < B := by have := HBS.out; have := HG.out; omega
          rw [← hB] at HBX HBS
          refine hK.out _ _ ?_ (fun hH6 => ?_)
          · exact HST6.out.ops
          try simp only [Act.put, List.setIfInBounds_toArray, List.set_cons_zero, List.set_cons_succ]
          simp only [← hB]
          clear hB
          obtain ⟨w6, hw6⟩ : ∃ w6, w6 = w5.alloc (.cells #[.int .i64 0, .int .i64 0, .int .u64 0, .int .u64 0, .int .i64 0] 36) := ⟨_, rfl⟩
          simp only [← hw6] at hH6 HST6 HBX ⊢
          clear hw6
          have b0 := HBX.out.cell 0 rfl
          have b1 := HBX.out.cell 1 rfl
          have b2 := HBX.out.cell 2 rfl
          have b3 := HBX.out.cell 3 rfl
          have b4 := HBX.out.cell 4 rfl
          have z0 := HBX.out.frozen 0
          have z1 := HBX.out.frozen 1
          have z2 := HBX.out.frozen 2
          have z3 := HBX.out.frozen 3
          have z4 := HBX.out.frozen 4
          refine wpAnyH_ready (rs := [15]) (by kernel_rfl) (by simp) ?_
          refine AllReadyH.cons rfl (fun K hK => ?_) AllReadyH.nil
          simp only [List.getElem_toArray, List.getElem_cons_zero, List.getElem_cons_succ]
          go_simp
          clear b0 z0 b1 z1 b2 z2 b3 z3 b4 z4
          have e1 : IntKind.i64.wrap (1 + (r1 : Int)) = ((1 + r1 : Nat) : Int) := by simp [IntKind.wrap, IntKind.bits, IntKind.signed]; omega
          have e4 : IntKind.u64.wrap (r4 : Int) = (r4 : Int) := by rw [IntKind.wrap_u64]; omega
          simp only [e1, e4]
          clear e1 e4
          have HBT := hid (show Blk (((((w6.setCell ⟨B, 0, none⟩ (.int .i64 ((1 + r1 : Nat) : Int))).setCell ⟨B, 1, none⟩ (.int .i64 (opsF r2 : Int))).setCell ⟨B, 2, none⟩ (.int .u64 (h : Int))).setCell ⟨B, 3, none⟩ (.int .u64 (r4 : Int))).setCell ⟨B, 4, none⟩ (.int .i64 0)) B #[.int .i64 ((1 + r1 : Nat) : Int), .int .i64 (opsF r2 : Int), .int .u64 (h : Int), .int .u64 (r4 : Int), .int .i64 ((0 : Nat) : Int)] 36 from (((((HBX.out.set 0 (.int .i64 ((1 + r1 : Nat) : Int))).set 1 (.int .i64 (opsF r2 : Int))).set 2 (.int .u64 (h : Int))).set 3 (.int .u64 (r4 : Int))).set 4 (.int .i64 0)))
          have HSTT := hid (((((HST6.out.set HBS.out 0 (.int .i64 ((1 + r1 : Nat) : Int))).set HBS.out 1 (.int .i64 (opsF r2 : Int))).set HBS.out 2 (.int .u64 (h : Int))).set HBS.out 3 (.int .u64 (r4 : Int))).set HBS.out 4 (.int .i64 0))
          obtain ⟨wT, hwT⟩ : ∃ wT, wT = (((((w6.setCell ⟨B, 0, none⟩ (.int .i64 ((1 + r1 : Nat) : Int))).setCell ⟨B, 1, none⟩ (.int .i64 (opsF r2 : Int))).setCell ⟨B, 2, none⟩ (.int .u64 (h : Int))).setCell ⟨B, 3, none⟩ (.int .u64 (r4 : Int))).setCell ⟨B, 4, none⟩ (.int .i64 0)) := ⟨_, rfl⟩
          simp only [← hwT] at HBT HSTT ⊢
          refine hK.out _ _ HSTT.out.ops (fun _ => ?_)
          clear hK hwT HBX
          refine wpAnyH_done (by kernel_rfl) ?_ _
          refine NoPanic.normal ?_
          go_wp2_with fail
          refine (next_any lo hi g n _ 3 wT HSTT.out.tp (by omega) (by omega) (by omega)).mono ?_
          rintro e wU ⟨r5, hr5, rfl, ht, hg⟩
          have HSTU := hid (HSTT.out.next ht hg)
          have HBU := hid (Blk.go HBT.out hg hgB)
          clear ht hg
          by_cases h5 : r5 = 0
          · subst h5
            go_wp2_with fail
            refine (next_any lo hi g n _ 30 wU HSTU.out.tp (by omega) (by omega) (by omega)).mono ?_
            rintro e wV ⟨r6, hr6, rfl, ht, hg⟩
            have HSTV := hid (HSTU.out.next ht hg)
            have HBV := hid (Blk.go HBU.out hg hgB)
            clear ht hg
            have hq6 : wrap64 (r6 : Int) = (r6 : Int) := by unfold wrap64; omega
            have b4 := HBV.out.cell 4 rfl
            have z4 := HBV.out.frozen 4
            have HSTX := hid (HSTV.out.set HBS.out 4 (.int .i64 (r6 : Int)))
            have HBXX := hid (show Blk (wV.setCell ⟨B, 4, none⟩ (.int .i64 (r6 : Int))) B #[.int .i64 ((1 + r1 : Nat) : Int), .int .i64 (opsF r2 : Int), .int .u64 (h : Int), .int .u64 (r4 : Int), .int .i64 (r6 : Int)] 36 from HBV.out.set 4 _)
            go_wp2_with fail
            clear b4 z4 hq6
            obtain ⟨wX, hwX⟩ : ∃ wX, wX = wV.setCell ⟨B, 4, none⟩ (.int .i64 (r6 : Int)) := ⟨_, rfl⟩
            simp only [← hwX] at HSTX HBXX ⊢
            clear hwX
            refine (next_any lo hi g n _ 9 wX HSTX.out.tp (by omega) (by omega) (by omega)).mono ?_
            rintro e wY ⟨r7, hr7, rfl, ht, hg⟩
            have HSTY := hid (HSTX.out.next ht hg)
            have HBY := hid (Blk.go HBXX.out hg hgB)
            clear ht hg
            by_cases h7 : r7 = 0
            · subst h7
              go_wp2_with fail
              refine (next_any lo hi g n _ 256 wY HSTY.out.tp (by omega) (by omega) (by omega)).mono ?_
              rintro e wZ ⟨r8, hr8, rfl, ht, hg⟩
              have HSTZ := hid ((HSTY.out.next ht hg).alloc (.cells #[.int .u8 (r8 : Int)] 5))
              have HBZ := hid (Blk.below (Blk.go HBY.out hg hgB) (below_new wZ #[.int .u8 (r8 : Int)] 5))
              clear ht hg
              have hq8 : r8 % 256 = r8 := by omega
              have HS8 := hid (one_byte wZ r8 hr8)
              go_wp2_with fail
              refine (rsum_any (some ⟨wZ.heap.size, 0, none⟩) 1 1 _ [UInt8.ofNat r8] _ rfl HS8.out (by decide)).mono ?_
              rintro e wA ⟨rfl, rfl⟩
              obtain ⟨sv, hsv⟩ : ∃ sv, sv = fnv fStart [UInt8.ofNat r8] := ⟨_, rfl⟩
              have hsl : sv < 18446744073709551616 := by rw [hsv]; exact fnv_lt _ _ fStart_lt
              rw [← hsv]
              clear hsv
              obtain ⟨wC, hwC⟩ : ∃ wC, wC = wZ.alloc (.cells #[.int .u8 (r8 : Int)] 5) := ⟨_, rfl⟩
              simp only [← hwC] at HSTZ HBZ ⊢
              clear hwC HS8
              have HSTD := hid (HSTZ.out.set HBS.out 3 (.int .u64 (sv : Int)))
              have HBD := hid (show Blk (wC.setCell ⟨B, 3, none⟩ (.int .u64 (sv : Int))) B #[.int .i64 ((1 + r1 : Nat) : Int), .int .i64 (opsF r2 : Int), .int .u64 (h : Int), .int .u64 (sv : Int), .int .i64 (r6 : Int)] 36 from HBZ.out.set 3 _)
              have b3 := HBZ.out.cell 3 rfl
              have z3 := HBZ.out.frozen 3
              have b0 := HBZ.out.cell 0 rfl
              have b1 := HBZ.out.cell 1 rfl
              have b2 := HBZ.out.cell 2 rfl
              have b4 := HBZ.out.cell 4 rfl
              have z0 := HBZ.out.frozen 0
              have z1 := HBZ.out.frozen 1
              have z2 := HBZ.out.frozen 2
              have z4 := HBZ.out.frozen 4
              have hne : w.heap.size ≠ B := by have := HBS.out; omega
              have hne' : B ≠ w.heap.size := fun e => hne e.symm
              have q0 := HSTZ.out.res.cell 0 rfl
              have q1 := HSTZ.out.res.cell 1 rfl
              have q2 := HSTZ.out.res.cell 2 rfl
              have q3 := HSTZ.out.res.cell 3 rfl
              have q4 := HSTZ.out.res.cell 4 rfl
              have y0 := HSTZ.out.res.frozen 0
              have y1 := HSTZ.out.res.frozen 1
              have y2 := HSTZ.out.res.frozen 2
              have y3 := HSTZ.out.res.frozen 3
              have y4 := HSTZ.out.res.frozen 4
              go_wp2
              refine bodyPost_ret (v := evv ((1 + r1 : Nat) : Int) (opsF r2) h (sv) (r6)) (by simp [results, Try.results23, go_sem, evv, b0, b1, b2, b3, b4, q0, q1, q2, q3, q4, hne, hne']) rfl ?_
              refine HSTD.out.made (by omega) ?_ (by omega) (by omega) (by omega) (by omega) (fun q => ?_)
              · exact evok_made r1 r2 (r6) hr1 hr2 (Nat.le_of_lt_succ hr6)
              · repeat (refine okset ?_ HSTD.out.gw.1 (by omega))
                exact q
            · have h7' : ((r7 : Int) == 0) = false := by simp; omega
              have b0 := HBY.out.cell 0 rfl
              have b1 := HBY.out.cell 1 rfl
              have b2 := HBY.out.cell 2 rfl
              have b3 := HBY.out.cell 3 rfl
              have b4 := HBY.out.cell 4 rfl
              have z0 := HBY.out.frozen 0
              have z1 := HBY.out.frozen 1
              have z2 := HBY.out.frozen 2
              have z3 := HBY.out.frozen 3
              have z4 := HBY.out.frozen 4
              have q0 := HSTY.out.res.cell 0 rfl
              have q1 := HSTY.out.res.cell 1 rfl
              have q2 := HSTY.out.res.cell 2 rfl
              have q3 := HSTY.out.res.cell 3 rfl
              have q4 := HSTY.out.res.cell 4 rfl
              have y0 := HSTY.out.res.frozen 0
              have y1 := HSTY.out.res.frozen 1
              have y2 := HSTY.out.res.frozen 2
              have y3 := HSTY.out.res.frozen 3
              have y4 := HSTY.out.res.frozen 4
              go_wp2
              refine bodyPost_ret (v := evv ((1 + r1 : Nat) : Int) (opsF r2) h (r4) (r6)) (by simp [results, Try.results23, go_sem, evv, b0, b1, b2, b3, b4, q0, q1, q2, q3, q4]) rfl ?_
              refine HSTY.out.made (by omega) ?_ (by omega) (by omega) (by omega) (by omega) (fun q => ?_)
              · exact evok_made r1 r2 (r6) hr1 hr2 (Nat.le_of_lt_succ hr6)
              · repeat (refine okset ?_ HSTY.out.gw.1 (by omega))
                exact q
          · have h5' : ((r5 : Int) == 0) = false := by simp; omega
            go_wp2_with fail
            refine (next_any lo hi g n _ 9 wU HSTU.out.tp (by omega) (by omega) (by omega)).mono ?_
            rintro e wY ⟨r7, hr7, rfl, ht, hg⟩
            have HSTY := hid (HSTU.out.next ht hg)
            have HBY := hid (Blk.go HBU.out hg hgB)
            clear ht hg
            by_cases h7 : r7 = 0
            · subst h7
              go_wp2_with fail
              refine (next_any lo hi g n _ 256 wY HSTY.out.tp (by omega) (by omega) (by omega)).mono ?_
              rintro e wZ ⟨r8, hr8, rfl, ht, hg⟩
              have HSTZ := hid ((HSTY.out.next ht hg).alloc (.cells #[.int .u8 (r8 : Int)] 5))
              have HBZ := hid (Blk.below (Blk.go HBY.out hg hgB) (below_new wZ #[.int .u8 (r8 : Int)] 5))
              clear ht hg
              have hq8 : r8 % 256 = r8 := by omega
              have HS8 := hid (one_byte wZ r8 hr8)
              go_wp2_with fail
              refine (rsum_any (some ⟨wZ.heap.size, 0, none⟩) 1 1 _ [UInt8.ofNat r8] _ rfl HS8.out (by decide)).mono ?_
              rintro e wA ⟨rfl, rfl⟩
              obtain ⟨sv, hsv⟩ : ∃ sv, sv = fnv fStart [UInt8.ofNat r8] := ⟨_, rfl⟩
              have hsl : sv < 18446744073709551616 := by rw [hsv]; exact fnv_lt _ _ fStart_lt
              rw [← hsv]
              clear hsv
              obtain ⟨wC, hwC⟩ : ∃ wC, wC = wZ.alloc (.cells #[.int .u8 (r8 : Int)] 5) := ⟨_, rfl⟩
              simp only [← hwC] at HSTZ HBZ ⊢
              clear hwC HS8
              have HSTD := hid (HSTZ.out.set HBS.out 3 (.int .u64 (sv : Int)))
              have HBD := hid (show Blk (wC.setCell ⟨B, 3, none⟩ (.int .u64 (sv : Int))) B #[.int .i64 ((1 + r1 : Nat) : Int), .int .i64 (opsF r2 : Int), .int .u64 (h : Int), .int .u64 (sv : Int), .int .i64 ((0 : Nat) : Int)] 36 from HBZ.out.set 3 _)
              have b3 := HBZ.out.cell 3 rfl
              have z3 := HBZ.out.frozen 3
              have b0 := HBZ.out.cell 0 rfl
              have b1 := HBZ.out.cell 1 rfl
              have b2 := HBZ.out.cell 2 rfl
              have b4 := HBZ.out.cell 4 rfl
              have z0 := HBZ.out.frozen 0
              have z1 := HBZ.out.frozen 1
              have z2 := HBZ.out.frozen 2
              have z4 := HBZ.out.frozen 4
              have hne : w.heap.size ≠ B := by have := HBS.out; omega
              have hne' : B ≠ w.heap.size := fun e => hne e.symm
              have q0 := HSTZ.out.res.cell 0 rfl
              have q1 := HSTZ.out.res.cell 1 rfl
              have q2 := HSTZ.out.res.cell 2 rfl
              have q3 := HSTZ.out.res.cell 3 rfl
              have q4 := HSTZ.out.res.cell 4 rfl
              have y0 := HSTZ.out.res.frozen 0
              have y1 := HSTZ.out.res.frozen 1
              have y2 := HSTZ.out.res.frozen 2
              have y3 := HSTZ.out.res.frozen 3
              have y4 := HSTZ.out.res.frozen 4
              go_wp2
              refine bodyPost_ret (v := evv ((1 + r1 : Nat) : Int) (opsF r2) h (sv) ((0 : Nat))) (by simp [results, Try.results23, go_sem, evv, b0, b1, b2, b3, b4, q0, q1, q2, q3, q4, hne, hne']) rfl ?_
              refine HSTD.out.made (by omega) ?_ (by omega) (by omega) (by omega) (by omega) (fun q => ?_)
              · exact evok_made r1 r2 ((0 : Nat)) hr1 hr2 (Nat.zero_le _)
              · repeat (refine okset ?_ HSTD.out.gw.1 (by omega))
                exact q
            · have h7' : ((r7 : Int) == 0) = false := by simp; omega
              have b0 := HBY.out.cell 0 rfl
              have b1 := HBY.out.cell 1 rfl
              have b2 := HBY.out.cell 2 rfl
              have b3 := HBY.out.cell 3 rfl
              have b4 := HBY.out.cell 4 rfl
              have z0 := HBY.out.frozen 0
              have z1 := HBY.out.frozen 1
              have z2 := HBY.out.frozen 2
              have z3 := HBY.out.frozen 3
              have z4 := HBY.out.frozen 4
              have q0 := HSTY.out.res.cell 0 rfl
              have q1 := HSTY.out.res.cell 1 rfl
              have q2 := HSTY.out.res.cell 2 rfl
              have q3 := HSTY.out.res.cell 3 rfl
              have q4 := HSTY.out.res.cell 4 rfl
              have y0 := HSTY.out.res.frozen 0
              have y1 := HSTY.out.res.frozen 1
              have y2 := HSTY.out.res.frozen 2
              have y3 := HSTY.out.res.frozen 3
              have y4 := HSTY.out.res.frozen 4
              go_wp2
              refine bodyPost_ret (v := evv ((1 + r1 : Nat) : Int) (opsF r2) h (r4) ((0 : Nat))) (by simp [results, Try.results23, go_sem, evv, b0, b1, b2, b3, b4, q0, q1, q2, q3, q4]) rfl ?_
              refine HSTY.out.made (by omega) ?_ (by omega) (by omega) (by omega) (by omega) (fun q => ?_)
              · exact evok_made r1 r2 ((0 : Nat)) hr1 hr2 (Nat.zero_le _)
              · repeat (refine okset ?_ HSTY.out.gw.1 (by omega))
                exact q
        · simp only [List.getElem_toArray, List.getElem_cons_zero, List.getElem_cons_succ]
          go_simp
          have HST5 := hid (HST4.out.alloc (.cells #[.int .i64 0, .int .i64 0, .int .u64 0, .int .u64 0, .int .i64 0] 36))
          have HBX := hid (show Blk (w4.alloc (.cells #[.int .i64 0, .int .i64 0, .int .u64 0, .int .u64 0, .int .i64 0] 36)) w4.heap.size #[.int .i64 0, .int .i64 0, .int .u64 0, .int .u64 0, .int .i64 0] 36 from heap_alloc_new w4 _)
          have HBS := hid HST4.out.ge
          obtain ⟨B, hB⟩ : ∃ B, B = w4.heap.size := ⟨_, rfl⟩
          have hgB : g < B := by have := HBS.out; have := HG.out; omega
          rw [← hB] at HBX HBS
          refine hK.out _ _ ?_ (fun hH5 => ?_)
          · exact HST5.out.ops
          try simp only [Act.put, List.setIfInBounds_toArray, List.set_cons_zero, List.set_cons_succ]
          simp only [← hB]
          clear hB
          obtain ⟨w5, hw5⟩ : ∃ w5, w5 = w4.alloc (.cells #[.int .i64 0, .int .i64 0, .int .u64 0, .int .u64 0, .int .i64 0] 36) := ⟨_, rfl⟩
          simp only [← hw5] at hH5 HST5 HBX ⊢
          clear hw5
          refine wpAnyH_ready (rs := [11]) (by kernel_rfl) (by simp) ?_
          refine AllReadyH.cons rfl (fun K hK => ?_) AllReadyH.nil
          simp only [List.getElem_toArray, List.getElem_cons_zero, List.getElem_cons_succ]
          go_simp
          refine (next_any lo hi g n _ 4 w5 HST5.out.tp (by omega) (by omega) (by omega)).mono ?_
          rintro e w6 ⟨r4, hr4, rfl, ht, hg⟩
          have hq4 : (r4 : Int) % 18446744073709551616 = (r4 : Int) := by omega
          have HST6 := hid (HST5.out.next ht hg)
          have HBX := hid (Blk.go HBX.out hg hgB)
          refine hK.out _ _ HST6.out.ops (fun hH6 => ?_)
          clear ht hg
          try simp only [Act.put, List.setIfInBounds_toArray, List.set_cons_zero, List.set_cons_succ]
          refine wpAnyH_take (i := 12) (v := ?_) rfl (by kernel_rfl) (by kernel_rfl) (by kernel_rfl) (fun _ _ _ h => h) (Or.inl ⟨by rfl, ?_⟩) hH6 ?_
          rotate_left
          · (intro w hSw; go_simp; try (with_reducible rfl))
          try simp only [Act.put, List.getElem_toArray, List.getElem_cons_zero, List.getElem_cons_succ, List.setIfInBounds_toArray, List.set_cons_zero, List.set_cons_succ]
          refine wpAnyH_take (i := 13) (v := ?_) rfl (by kernel_rfl) (by kernel_rfl) (by kernel_rfl) (fun _ _ _ h => h) (Or.inl ⟨by rfl, ?_⟩) hH6 ?_
          rotate_left
          · (intro w hSw; go_simp; try (with_reducible rfl))
          try simp only [Act.put, List.getElem_toArray, List.getElem_cons_zero, List.getElem_cons_succ, List.setIfInBounds_toArray, List.set_cons_zero, List.set_cons_succ]
          have b0 := HBX.out.cell 0 rfl
          have b1 := HBX.out.cell 1 rfl
          have b2 := HBX.out.cell 2 rfl
          have b3 := HBX.out.cell 3 rfl
          have b4 := HBX.out.cell 4 rfl
          have z0 := HBX.out.frozen 0
          have z1 := HBX.out.frozen 1
          have z2 := HBX.out.frozen 2
          have z3 := HBX.out.frozen 3
          have z4 := HBX.out.frozen 4
          refine wpAnyH_ready (rs := [15]) (by kernel_rfl) (by simp) ?_
          refine AllReadyH.cons rfl (fun K hK => ?_) AllReadyH.nil
          simp only [List.getElem_toArray, List.getElem_cons_zero, List.getElem_cons_succ]
          go_simp
          clear b0 z0 b1 z1 b2 z2 b3 z3 b4 z4
          have e1 : IntKind.i64.wrap (1 + (r1 : Int)) = ((1 + r1 : Nat) : Int) := by simp [IntKind.wrap, IntKind.bits, IntKind.signed]; omega
          have e4 : IntKind.u64.wrap (r4 : Int) = (r4 : Int) := by rw [IntKind.wrap_u64]; omega
          simp only [e1, e4]
          clear e1 e4
          have HBT := hid (show Blk (((((w6.setCell ⟨B, 0, none⟩ (.int .i64 ((1 + r1 : Nat) : Int))).setCell ⟨B, 1, none⟩ (.int .i64 (opsF r2 : Int))).setCell ⟨B, 2, none⟩ (.int .u64 (h : Int))).setCell ⟨B, 3, none⟩ (.int .u64 (r4 : Int))).setCell ⟨B, 4, none⟩ (.int .i64 0)) B #[.int .i64 ((1 + r1 : Nat) : Int), .int .i64 (opsF r2 : Int), .int .u64 (h : Int), .int .u64 (r4 : Int), .int .i64 ((0 : Nat) : Int)] 36 from (((((HBX.out.set 0 (.int .i64 ((1 + r1 : Nat) : Int))).set 1 (.int .i64 (opsF r2 : Int))).set 2 (.int .u64 (h : Int))).set 3 (.int .u64 (r4 : Int))).set 4 (.int .i64 0)))
          have HSTT := hid (((((HST6.out.set HBS.out 0 (.int .i64 ((1 + r1 : Nat) : Int))).set HBS.out 1 (.int .i64 (opsF r2 : Int))).set HBS.out 2 (.int .u64 (h : Int))).set HBS.out 3 (.int .u64 (r4 : Int))).set HBS.out 4 (.int .i64 0))
          obtain ⟨wT, hwT⟩ : ∃ wT, wT = (((((w6.setCell ⟨B, 0, none⟩ (.int .i64 ((1 + r1 : Nat) : Int))).setCell ⟨B, 1, none⟩ (.int .i64 (opsF r2 : Int))).setCell ⟨B, 2, none⟩ (.int .u64 (h : Int))).setCell ⟨B, 3, none⟩ (.int .u64 (r4 : Int))).setCell ⟨B, 4, none⟩ (.int .i64 0)) := ⟨_, rfl⟩
          simp only [← hwT] at HBT HSTT ⊢
          refine hK.out _ _ HSTT.out.ops (fun _ => ?_)
          clear hK hwT HBX
          refine wpAnyH_done (by kernel_rfl) ?_ _
          refine NoPanic.normal ?_
          go_wp2_with fail
          refine (next_any lo hi g n _ 3 wT HSTT.out.tp (by omega) (by omega) (by omega)).mono ?_
          rintro e wU ⟨r5, hr5, rfl, ht, hg⟩
          have HSTU := hid (HSTT.out.next ht hg)
          have HBU := hid (Blk.go HBT.out hg hgB)
          clear ht hg
          by_cases h5 : r5 = 0
          · subst h5
            go_wp2_with fail
            refine (next_any lo hi g n _ 30 wU HSTU.out.tp (by omega) (by omega) (by omega)).mono ?_
            rintro e wV ⟨r6, hr6, rfl, ht, hg⟩
            have HSTV := hid (HSTU.out.next ht hg)
            have HBV := hid (Blk.go HBU.out hg hgB)
            clear ht hg
            have hq6 : wrap64 (r6 : Int) = (r6 : Int) := by unfold wrap64; omega
            have b4 := HBV.out.cell 4 rfl
            have z4 := HBV.out.frozen 4
            have HSTX := hid (HSTV.out.set HBS.out 4 (.int .i64 (r6 : Int)))
            have HBXX := hid (show Blk (wV.setCell ⟨B, 4, none⟩ (.int .i64 (r6 : Int))) B #[.int .i64 ((1 + r1 : Nat) : Int), .int .i64 (opsF r2 : Int), .int .u64 (h : Int), .int .u64 (r4 : Int), .int .i64 (r6 : Int)] 36 from HBV.out.set 4 _)
            go_wp2_with fail
            clear b4 z4 hq6
            obtain ⟨wX, hwX⟩ : ∃ wX, wX = wV.setCell ⟨B, 4, none⟩ (.int .i64 (r6 : Int)) := ⟨_, rfl⟩
            simp only [← hwX] at HSTX HBXX ⊢
            clear hwX
            refine (next_any lo hi g n _ 9 wX HSTX.out.tp (by omega) (by omega) (by omega)).mono ?_
            rintro e wY ⟨r7, hr7, rfl, ht, hg⟩
            have HSTY := hid (HSTX.out.next ht hg)
            have HBY := hid (Blk.go HBXX.out hg hgB)
            clear ht hg
            by_cases h7 : r7 = 0
            · subst h7
              go_wp2_with fail
              refine (next_any lo hi g n _ 256 wY HSTY.out.tp (by omega) (by omega) (by omega)).mono ?_
              rintro e wZ ⟨r8, hr8, rfl, ht, hg⟩
              have HSTZ := hid ((HSTY.out.next ht hg).alloc (.cells #[.int .u8 (r8 : Int)] 5))
              have HBZ := hid (Blk.below (Blk.go HBY.out hg hgB) (below_new wZ #[.int .u8 (r8 : Int)] 5))
              clear ht hg
              have hq8 : r8 % 256 = r8 := by omega
              have HS8 := hid (one_byte wZ r8 hr8)
              go_wp2_with fail
              refine (rsum_any (some ⟨wZ.heap.size, 0, none⟩) 1 1 _ [UInt8.ofNat r8] _ rfl HS8.out (by decide)).mono ?_
              rintro e wA ⟨rfl, rfl⟩
              obtain ⟨sv, hsv⟩ : ∃ sv, sv = fnv fStart [UInt8.ofNat r8] := ⟨_, rfl⟩
              have hsl : sv < 18446744073709551616 := by rw [hsv]; exact fnv_lt _ _ fStart_lt
              rw [← hsv]
              clear hsv
              obtain ⟨wC, hwC⟩ : ∃ wC, wC = wZ.alloc (.cells #[.int .u8 (r8 : Int)] 5) := ⟨_, rfl⟩
              simp only [← hwC] at HSTZ HBZ ⊢
              clear hwC HS8
              have HSTD := hid (HSTZ.out.set HBS.out 3 (.int .u64 (sv : Int)))
              have HBD := hid (show Blk (wC.setCell ⟨B, 3, none⟩ (.int .u64 (sv : Int))) B #[.int .i64 ((1 + r1 : Nat) : Int), .int .i64 (opsF r2 : Int), .int .u64 (h : Int), .int .u64 (sv : Int), .int .i64 (r6 : Int)] 36 from HBZ.out.set 3 _)
              have b3 := HBZ.out.cell 3 rfl
              have z3 := HBZ.out.frozen 3
              have b0 := HBZ.out.cell 0 rfl
              have b1 := HBZ.out.cell 1 rfl
              have b2 := HBZ.out.cell 2 rfl
              have b4 := HBZ.out.cell 4 rfl
              have z0 := HBZ.out.frozen 0
              have z1 := HBZ.out.frozen 1
              have z2 := HBZ.out.frozen 2
              have z4 := HBZ.out.frozen 4
              have hne : w.heap.size ≠ B := by have := HBS.out; omega
              have hne' : B ≠ w.heap.size := fun e => hne e.symm
              have q0 := HSTZ.out.res.cell 0 rfl
              have q1 := HSTZ.out.res.cell 1 rfl
              have q2 := HSTZ.out.res.cell 2 rfl
              have q3 := HSTZ.out.res.cell 3 rfl
              have q4 := HSTZ.out.res.cell 4 rfl
              have y0 := HSTZ.out.res.frozen 0
              have y1 := HSTZ.out.res.frozen 1
              have y2 := HSTZ.out.res.frozen 2
              have y3 := HSTZ.out.res.frozen 3
              have y4 := HSTZ.out.res.frozen 4
              go_wp2
              refine bodyPost_ret (v := evv ((1 + r1 : Nat) : Int) (opsF r2) h (sv) (r6)) (by simp [results, Try.results23, go_sem, evv, b0, b1, b2, b3, b4, q0, q1, q2, q3, q4, hne, hne']) rfl ?_
              refine HSTD.out.made (by omega) ?_ (by omega) (by omega) (by omega) (by omega) (fun q => ?_)
              · exact evok_made r1 r2 (r6) hr1 hr2 (Nat.le_of_lt_succ hr6)
              · repeat (refine okset ?_ HSTD.out.gw.1 (by omega))
                exact q
            · have h7' : ((r7 : Int) == 0) = false := by simp; omega
              have b0 := HBY.out.cell 0 rfl
              have b1 := HBY.out.cell 1 rfl
              have b2 := HBY.out.cell 2 rfl
              have b3 := HBY.out.cell 3 rfl
              have b4 := HBY.out.cell 4 rfl
              have z0 := HBY.out.frozen 0
              have z1 := HBY.out.frozen 1
              have z2 := HBY.out.frozen 2
              have z3 := HBY.out.frozen 3
              have z4 := HBY.out.frozen 4
              have q0 := HSTY.out.res.cell 0 rfl
              have q1 := HSTY.out.res.cell 1 rfl
              have q2 := HSTY.out.res.cell 2 rfl
              have q3 := HSTY.out.res.cell 3 rfl
              have q4 := HSTY.out.res.cell 4 rfl
              have y0 := HSTY.out.res.frozen 0
              have y1 := HSTY.out.res.frozen 1
              have y2 := HSTY.out.res.frozen 2
              have y3 := HSTY.out.res.frozen 3
              have y4 := HSTY.out.res.frozen 4
              go_wp2
              refine bodyPost_ret (v := evv ((1 + r1 : Nat) : Int) (opsF r2) h (r4) (r6)) (by simp [results, Try.results23, go_sem, evv, b0, b1, b2, b3, b4, q0, q1, q2, q3, q4]) rfl ?_
              refine HSTY.out.made (by omega) ?_ (by omega) (by omega) (by omega) (by omega) (fun q => ?_)
              · exact evok_made r1 r2 (r6) hr1 hr2 (Nat.le_of_lt_succ hr6)
              · repeat (refine okset ?_ HSTY.out.gw.1 (by omega))
                exact q
          · have h5' : ((r5 : Int) == 0) = false := by simp; omega
            go_wp2_with fail
            refine (next_any lo hi g n _ 9 wU HSTU.out.tp (by omega) (by omega) (by omega)).mono ?_
            rintro e wY ⟨r7, hr7, rfl, ht, hg⟩
            have HSTY := hid (HSTU.out.next ht hg)
            have HBY := hid (Blk.go HBU.out hg hgB)
            clear ht hg
            by_cases h7 : r7 = 0
            · subst h7
              go_wp2_with fail
              refine (next_any lo hi g n _ 256 wY HSTY.out.tp (by omega) (by omega) (by omega)).mono ?_
              rintro e wZ ⟨r8, hr8, rfl, ht, hg⟩
              have HSTZ := hid ((HSTY.out.next ht hg).alloc (.cells #[.int .u8 (r8 : Int)] 5))
              have HBZ := hid (Blk.below (Blk.go HBY.out hg hgB) (below_new wZ #[.int .u8 (r8 : Int)] 5))
              clear ht hg
              have hq8 : r8 % 256 = r8 := by omega
              have HS8 := hid (one_byte wZ r8 hr8)
              go_wp2_with fail
              refine (rsum_any (some ⟨wZ.heap.size, 0, none⟩) 1 1 _ [UInt8.ofNat r8] _ rfl HS8.out (by decide)).mono ?_
              rintro e wA ⟨rfl, rfl⟩
              obtain ⟨sv, hsv⟩ : ∃ sv, sv = fnv fStart [UInt8.ofNat r8] := ⟨_, rfl⟩
              have hsl : sv < 18446744073709551616 := by rw [hsv]; exact fnv_lt _ _ fStart_lt
              rw [← hsv]
              clear hsv
              obtain ⟨wC, hwC⟩ : ∃ wC, wC = wZ.alloc (.cells #[.int .u8 (r8 : Int)] 5) := ⟨_, rfl⟩
              simp only [← hwC] at HSTZ HBZ ⊢
              clear hwC HS8
              have HSTD := hid (HSTZ.out.set HBS.out 3 (.int .u64 (sv : Int)))
              have HBD := hid (show Blk (wC.setCell ⟨B, 3, none⟩ (.int .u64 (sv : Int))) B #[.int .i64 ((1 + r1 : Nat) : Int), .int .i64 (opsF r2 : Int), .int .u64 (h : Int), .int .u64 (sv : Int), .int .i64 ((0 : Nat) : Int)] 36 from HBZ.out.set 3 _)
              have b3 := HBZ.out.cell 3 rfl
              have z3 := HBZ.out.frozen 3
              have b0 := HBZ.out.cell 0 rfl
              have b1 := HBZ.out.cell 1 rfl
              have b2 := HBZ.out.cell 2 rfl
              have b4 := HBZ.out.cell 4 rfl
              have z0 := HBZ.out.frozen 0
              have z1 := HBZ.out.frozen 1
              have z2 := HBZ.out.frozen 2
              have z4 := HBZ.out.frozen 4
              have hne : w.heap.size ≠ B := by have := HBS.out; omega
              have hne' : B ≠ w.heap.size := fun e => hne e.symm
              have q0 := HSTZ.out.res.cell 0 rfl
              have q1 := HSTZ.out.res.cell 1 rfl
              have q2 := HSTZ.out.res.cell 2 rfl
              have q3 := HSTZ.out.res.cell 3 rfl
              have q4 := HSTZ.out.res.cell 4 rfl
              have y0 := HSTZ.out.res.frozen 0
              have y1 := HSTZ.out.res.frozen 1
              have y2 := HSTZ.out.res.frozen 2
              have y3 := HSTZ.out.res.frozen 3
              have y4 := HSTZ.out.res.frozen 4
              go_wp2
              refine bodyPost_ret (v := evv ((1 + r1 : Nat) : Int) (opsF r2) h (sv) ((0 : Nat))) (by simp [results, Try.results23, go_sem, evv, b0, b1, b2, b3, b4, q0, q1, q2, q3, q4, hne, hne']) rfl ?_
              refine HSTD.out.made (by omega) ?_ (by omega) (by omega) (by omega) (by omega) (fun q => ?_)
              · exact evok_made r1 r2 ((0 : Nat)) hr1 hr2 (Nat.zero_le _)
              · repeat (refine okset ?_ HSTD.out.gw.1 (by omega))
                exact q
            · have h7' : ((r7 : Int) == 0) = false := by simp; omega
              have b0 := HBY.out.cell 0 rfl
              have b1 := HBY.out.cell 1 rfl
              have b2 := HBY.out.cell 2 rfl
              have b3 := HBY.out.cell 3 rfl
              have b4 := HBY.out.cell 4 rfl
              have z0 := HBY.out.frozen 0
              have z1 := HBY.out.frozen 1
              have z2 := HBY.out.frozen 2
              have z3 := HBY.out.frozen 3
              have z4 := HBY.out.frozen 4
              have q0 := HSTY.out.res.cell 0 rfl
              have q1 := HSTY.out.res.cell 1 rfl
              have q2 := HSTY.out.res.cell 2 rfl
              have q3 := HSTY.out.res.cell 3 rfl
              have q4 := HSTY.out.res.cell 4 rfl
              have y0 := HSTY.out.res.frozen 0
              have y1 := HSTY.out.res.frozen 1
              have y2 := HSTY.out.res.frozen 2
              have y3 := HSTY.out.res.frozen 3
              have y4 := HSTY.out.res.frozen 4
              go_wp2
              refine bodyPost_ret (v := evv ((1 + r1 : Nat) : Int) (opsF r2) h (r4) ((0 : Nat))) (by simp [results, Try.results23, go_sem, evv, b0, b1, b2, b3, b4, q0, q1, q2, q3, q4]) rfl ?_
              refine HSTY.out.made (by omega) ?_ (by omega) (by omega) (by omega) (by omega) (fun q => ?_)
              · exact evok_made r1 r2 ((0 : Nat)) hr1 hr2 (Nat.zero_le _)
              · repeat (refine okset ?_ HSTY.out.gw.1 (by omega))
                exact q
      · simp only [List.getElem_toArray, List.getElem_cons_zero, List.getElem_cons_succ]
        go_simp
        have HST4 := hid (HST3.out.alloc (.cells #[.int .i64 0, .int .i64 0, .int .u64 0, .int .u64 0, .int .i64 0] 36))
        have HBX := hid (show Blk (w3.alloc (.cells #[.int .i64 0, .int .i64 0, .int .u64 0, .int .u64 0, .int .i64 0] 36)) w3.heap.size #[.int .i64 0, .int .i64 0, .int .u64 0, .int .u64 0, .int .i64 0] 36 from heap_alloc_new w3 _)
        have HBS := hid HST3.out.ge
        obtain ⟨B, hB⟩ : ∃ B, B = w3.heap.size := ⟨_, rfl⟩
        have hgB : g < B := by have := HBS.out; have := HG.out; omega
        rw [← hB] at HBX HBS
        refine hK.out _ _ ?_ (fun hH4 => ?_)
        · exact HST4.out.ops
        try simp only [Act.put, List.setIfInBounds_toArray, List.set_cons_zero, List.set_cons_succ]
        simp only [← hB]
        clear hB
        obtain ⟨w4, hw4⟩ : ∃ w4, w4 = w3.alloc (.cells #[.int .i64 0, .int .i64 0, .int .u64 0, .int .u64 0, .int .i64 0] 36) := ⟨_, rfl⟩
        simp only [← hw4] at hH4 HST4 HBX ⊢
        clear hw4
        refine wpAnyH_ready (rs := [9]) (by kernel_rfl) (by simp) ?_
        refine AllReadyH.cons rfl (fun K hK => ?_) AllReadyH.nil
        simp only [List.getElem_toArray, List.getElem_cons_zero, List.getElem_cons_succ]
        go_simp
        refine (word_any lo hi g n _ w4 HST4.out.tp (by omega)).mono ?_
        rintro e w5 ⟨v, i', hv0, hv1, rfl, hi1, hi2', ht, hg⟩
        obtain ⟨h, rfl⟩ := Int.eq_ofNat_of_zero_le hv0
        have HST5 := hid (HST4.out.next ht hg)
        have HBX := hid (Blk.go HBX.out hg hgB)
        refine hK.out _ _ HST5.out.ops (fun hH5 => ?_)
        clear ht hg
        try simp only [Act.put, List.setIfInBounds_toArray, List.set_cons_zero, List.set_cons_succ]
        refine wpAnyH_ready (rs := [11]) (by kernel_rfl) (by simp) ?_
        refine AllReadyH.cons rfl (fun K hK => ?_) AllReadyH.nil
        simp only [List.getElem_toArray, List.getElem_cons_zero, List.getElem_cons_succ]
        go_simp
        refine (next_any lo hi g n _ 4 w5 HST5.out.tp (by omega) (by omega) (by omega)).mono ?_
        rintro e w6 ⟨r4, hr4, rfl, ht, hg⟩
        have hq4 : (r4 : Int) % 18446744073709551616 = (r4 : Int) := by omega
        have HST6 := hid (HST5.out.next ht hg)
        have HBX := hid (Blk.go HBX.out hg hgB)
        refine hK.out _ _ HST6.out.ops (fun hH6 => ?_)
        clear ht hg
        try simp only [Act.put, List.setIfInBounds_toArray, List.set_cons_zero, List.set_cons_succ]
        refine wpAnyH_take (i := 12) (v := ?_) rfl (by kernel_rfl) (by kernel_rfl) (by kernel_rfl) (fun _ _ _ h => h) (Or.inl ⟨by rfl, ?_⟩) hH6 ?_
        rotate_left
        · (intro w hSw; go_simp; try (with_reducible rfl))
        try simp only [Act.put, List.getElem_toArray, List.getElem_cons_zero, List.getElem_cons_succ, List.setIfInBounds_toArray, List.set_cons_zero, List.set_cons_succ]
        refine wpAnyH_take (i := 13) (v := ?_) rfl (by kernel_rfl) (by kernel_rfl) (by kernel_rfl) (fun _ _ _ h => h) (Or.inl ⟨by rfl, ?_⟩) hH6 ?_
        rotate_left
        · (intro w hSw; go_simp; try (with_reducible rfl))
        try simp only [Act.put, List.getElem_toArray, List.getElem_cons_zero, List.getElem_cons_succ, List.setIfInBounds_toArray, List.set_cons_zero, List.set_cons_succ]
        have b0 := HBX.out.cell 0 rfl
        have b1 := HBX.out.cell 1 rfl
        have b2 := HBX.out.cell 2 rfl
        have b3 := HBX.out.cell 3 rfl
        have b4 := HBX.out.cell 4 rfl
        have z0 := HBX.out.frozen 0
        have z1 := HBX.out.frozen 1
        have z2 := HBX.out.frozen 2
        have z3 := HBX.out.frozen 3
        have z4 := HBX.out.frozen 4
        refine wpAnyH_ready (rs := [15]) (by kernel_rfl) (by simp) ?_
        refine AllReadyH.cons rfl (fun K hK => ?_) AllReadyH.nil
        simp only [List.getElem_toArray, List.getElem_cons_zero, List.getElem_cons_succ]
        go_simp
        clear b0 z0 b1 z1 b2 z2 b3 z3 b4 z4
        have e1 : IntKind.i64.wrap (1 + (r1 : Int)) = ((1 + r1 : Nat) : Int) := by simp [IntKind.wrap, IntKind.bits, IntKind.signed]; omega
        have e4 : IntKind.u64.wrap (r4 : Int) = (r4 : Int) := by rw [IntKind.wrap_u64]; omega
        simp only [e1, e4]
        clear e1 e4
        have HBT := hid (show Blk (((((w6.setCell ⟨B, 0, none⟩ (.int .i64 ((1 + r1 : Nat) : Int))).setCell ⟨B, 1, none⟩ (.int .i64 (opsF r2 : Int))).setCell ⟨B, 2, none⟩ (.int .u64 (h : Int))).setCell ⟨B, 3, none⟩ (.int .u64 (r4 : Int))).setCell ⟨B, 4, none⟩ (.int .i64 0)) B #[.int .i64 ((1 + r1 : Nat) : Int), .int .i64 (opsF r2 : Int), .int .u64 (h : Int), .int .u64 (r4 : Int), .int .i64 ((0 : Nat) : Int)] 36 from (((((HBX.out.set 0 (.int .i64 ((1 + r1 : Nat) : Int))).set 1 (.int .i64 (opsF r2 : Int))).set 2 (.int .u64 (h : Int))).set 3 (.int .u64 (r4 : Int))).set 4 (.int .i64 0)))
        have HSTT := hid (((((HST6.out.set HBS.out 0 (.int .i64 ((1 + r1 : Nat) : Int))).set HBS.out 1 (.int .i64 (opsF r2 : Int))).set HBS.out 2 (.int .u64 (h : Int))).set HBS.out 3 (.int .u64 (r4 : Int))).set HBS.out 4 (.int .i64 0))
        obtain ⟨wT, hwT⟩ : ∃ wT, wT = (((((w6.setCell ⟨B, 0, none⟩ (.int .i64 ((1 + r1 : Nat) : Int))).setCell ⟨B, 1, none⟩ (.int .i64 (opsF r2 : Int))).setCell ⟨B, 2, none⟩ (.int .u64 (h : Int))).setCell ⟨B, 3, none⟩ (.int .u64 (r4 : Int))).setCell ⟨B, 4, none⟩ (.int .i64 0)) := ⟨_, rfl⟩
        simp only [← hwT] at HBT HSTT ⊢
        refine hK.out _ _ HSTT.out.ops (fun _ => ?_)
        clear hK hwT HBX
        refine wpAnyH_done (by kernel_rfl) ?_ _
        refine NoPanic.normal ?_
        go_wp2_with fail
        refine (next_any lo hi g n _ 3 wT HSTT.out.tp (by omega) (by omega) (by omega)).mono ?_
        rintro e wU ⟨r5, hr5, rfl, ht, hg⟩
        have HSTU := hid (HSTT.out.next ht hg)
        have HBU := hid (Blk.go HBT.out hg hgB)
        clear ht hg
        by_cases h5 : r5 = 0
        · subst h5
          go_wp2_with fail
          refine (next_any lo hi g n _ 30 wU HSTU.out.tp (by omega) (by omega) (by omega)).mono ?_
          rintro e wV ⟨r6, hr6, rfl, ht, hg⟩
          have HSTV := hid (HSTU.out.next ht hg)
          have HBV := hid (Blk.go HBU.out hg hgB)
          clear ht hg
          have hq6 : wrap64 (r6 : Int) = (r6 : Int) := by unfold wrap64; omega
          have b4 := HBV.out.cell 4 rfl
          have z4 := HBV.out.frozen 4
          have HSTX := hid (HSTV.out.set HBS.out 4 (.int .i64 (r6 : Int)))
          have HBXX := hid (show Blk (wV.setCell ⟨B, 4, none⟩ (.int .i64 (r6 : Int))) B #[.int .i64 ((1 + r1 : Nat) : Int), .int .i64 (opsF r2 : Int), .int .u64 (h : Int), .int .u64 (r4 : Int), .int .i64 (r6 : Int)] 36 from HBV.out.set 4 _)
          go_wp2_with fail
          clear b4 z4 hq6
          obtain ⟨wX, hwX⟩ : ∃ wX, wX = wV.setCell ⟨B, 4, none⟩ (.int .i64 (r6 : Int)) := ⟨_, rfl⟩
          simp only [← hwX] at HSTX HBXX ⊢
          clear hwX
          refine (next_any lo hi g n _ 9 wX HSTX.out.tp (by omega) (by omega) (by omega)).mono ?_
          rintro e wY ⟨r7, hr7, rfl, ht, hg⟩
          have HSTY := hid (HSTX.out.next ht hg)
          have HBY := hid (Blk.go HBXX.out hg hgB)
          clear ht hg
          by_cases h7 : r7 = 0
          · subst h7
            go_wp2_with fail
            refine (next_any lo hi g n _ 256 wY HSTY.out.tp (by omega) (by omega) (by omega)).mono ?_
            rintro e wZ ⟨r8, hr8, rfl, ht, hg⟩
            have HSTZ := hid ((HSTY.out.next ht hg).alloc (.cells #[.int .u8 (r8 : Int)] 5))
            have HBZ := hid (Blk.below (Blk.go HBY.out hg hgB) (below_new wZ #[.int .u8 (r8 : Int)] 5))
            clear ht hg
            have hq8 : r8 % 256 = r8 := by omega
            have HS8 := hid (one_byte wZ r8 hr8)
            go_wp2_with fail
            refine (rsum_any (some ⟨wZ.heap.size, 0, none⟩) 1 1 _ [UInt8.ofNat r8] _ rfl HS8.out (by decide)).mono ?_
            rintro e wA ⟨rfl, rfl⟩
            obtain ⟨sv, hsv⟩ : ∃ sv, sv = fnv fStart [UInt8.ofNat r8] := ⟨_, rfl⟩
            have hsl : sv < 18446744073709551616 := by rw [hsv]; exact fnv_lt _ _ fStart_lt
            rw [← hsv]
            clear hsv
            obtain ⟨wC, hwC⟩ : ∃ wC, wC = wZ.alloc (.cells #[.int .u8 (r8 : Int)] 5) := ⟨_, rfl⟩
            simp only [← hwC] at HSTZ HBZ ⊢
            clear hwC HS8
            have HSTD := hid (HSTZ.out.set HBS.out 3 (.int .u64 (sv : Int)))
            have HBD := hid (show Blk (wC.setCell ⟨B, 3, none⟩ (.int .u64 (sv : Int))) B #[.int .i64 ((1 + r1 : Nat) : Int), .int .i64 (opsF r2 : Int), .int .u64 (h : Int), .int .u64 (sv : Int), .int .i64 (r6 : Int)] 36 from HBZ.out.set 3 _)
            have b3 := HBZ.out.cell 3 rfl
            have z3 := HBZ.out.frozen 3
            have b0 := HBZ.out.cell 0 rfl
            have b1 := HBZ.out.cell 1 rfl
            have b2 := HBZ.out.cell 2 rfl
            have b4 := HBZ.out.cell 4 rfl
            have z0 := HBZ.out.frozen 0
            have z1 := HBZ.out.frozen 1
            have z2 := HBZ.out.frozen 2
            have z4 := HBZ.out.frozen 4
            have hne : w.heap.size ≠ B := by have := HBS.out; omega
            have hne' : B ≠ w.heap.size := fun e => hne e.symm
            have q0 := HSTZ.out.res.cell 0 rfl
            have q1 := HSTZ.out.res.cell 1 rfl
            have q2 := HSTZ.out.res.cell 2 rfl
            have q3 := HSTZ.out.res.cell 3 rfl
            have q4 := HSTZ.out.res.cell 4 rfl
            have y0 := HSTZ.out.res.frozen 0
            have y1 := HSTZ.out.res.frozen 1
            have y2 := HSTZ.out.res.frozen 2
            have y3 := HSTZ.out.res.frozen 3
            have y4 := HSTZ.out.res.frozen 4
            go_wp2
            refine bodyPost_ret (v := evv ((1 + r1 : Nat) : Int) (opsF r2) h (sv) (r6)) (by simp [results, Try.results23, go_sem, evv, b0, b1, b2, b3, b4, q0, q1, q2, q3, q4, hne, hne']) rfl ?_
            refine HSTD.out.made (by omega) ?_ (by omega) (by omega) (by omega) (by omega) (fun q => ?_)
            · exact evok_made r1 r2 (r6) hr1 hr2 (Nat.le_of_lt_succ hr6)
            · repeat (refine okset ?_ HSTD.out.gw.1 (by omega))
              exact q
          · have h7' : ((r7 : Int) == 0) = false := by simp; omega
            have b0 := HBY.out.cell 0 rfl
            have b1 := HBY.out.cell 1 rfl
            have b2 := HBY.out.cell 2 rfl
            have b3 := HBY.out.cell 3 rfl
            have b4 := HBY.out.cell 4 rfl
            have z0 := HBY.out.frozen 0
            have z1 := HBY.out.frozen 1
            have z2 := HBY.out.frozen 2
            have z3 := HBY.out.frozen 3
            have z4 := HBY.out.frozen 4
            have q0 := HSTY.out.res.cell 0 rfl
            have q1 := HSTY.out.res.cell 1 rfl
            have q2 := HSTY.out.res.cell 2 rfl
            have q3 := HSTY.out.res.cell 3 rfl
            have q4 := HSTY.out.res.cell 4 rfl
            have y0 := HSTY.out.res.frozen 0
            have y1 := HSTY.out.res.frozen 1
            have y2 := HSTY.out.res.frozen 2
            have y3 := HSTY.out.res.frozen 3
            have y4 := HSTY.out.res.frozen 4
            go_wp2
            refine bodyPost_ret (v := evv ((1 + r1 : Nat) : Int) (opsF r2) h (r4) (r6)) (by simp [results, Try.results23, go_sem, evv, b0, b1, b2, b3, b4, q0, q1, q2, q3, q4]) rfl ?_
            refine HSTY.out.made (by omega) ?_ (by omega) (by omega) (by omega) (by omega) (fun q => ?_)
            · exact evok_made r1 r2 (r6) hr1 hr2 (Nat.le_of_lt_succ hr6)
            · repeat (refine okset ?_ HSTY.out.gw.1 (by omega))
              exact q
        · have h5' : ((r5 : Int) == 0) = false := by simp; omega
          go_wp2_with fail
          refine (next_any lo hi g n _ 9 wU HSTU.out.tp (by omega) (by omega) (by omega)).mono ?_
          rintro e wY ⟨r7, hr7, rfl, ht, hg⟩
          have HSTY := hid (HSTU.out.next ht hg)
          have HBY := hid (Blk.go HBU.out hg hgB)
          clear ht hg
          by_cases h7 : r7 = 0
          · subst h7
            go_wp2_with fail
            refine (next_any lo hi g n _ 256 wY HSTY.out.tp (by omega) (by omega) (by omega)).mono ?_
            rintro e wZ ⟨r8, hr8, rfl, ht, hg⟩
            have HSTZ := hid ((HSTY.out.next ht hg).alloc (.cells #[.int .u8 (r8 : Int)] 5))
            have HBZ := hid (Blk.below (Blk.go HBY.out hg hgB) (below_new wZ #[.int .u8 (r8 : Int)] 5))
            clear ht hg
            have hq8 : r8 % 256 = r8 := by omega
            have HS8 := hid (one_byte wZ r8 hr8)
            go_wp2_with fail
            refine (rsum_any (some ⟨wZ.heap.size, 0, none⟩) 1 1 _ [UInt8.ofNat r8] _ rfl HS8.out (by decide)).mono ?_
            rintro e wA ⟨rfl, rfl⟩
            obtain ⟨sv, hsv⟩ : ∃ sv, sv = fnv fStart [UInt8.ofNat r8] := ⟨_, rfl⟩
            have hsl : sv < 18446744073709551616 := by rw [hsv]; exact fnv_lt _ _ fStart_lt
            rw [← hsv]
            clear hsv
            obtain ⟨wC, hwC⟩ : ∃ wC, wC = wZ.alloc (.cells #[.int .u8 (r8 : Int)] 5) := ⟨_, rfl⟩
            simp only [← hwC] at HSTZ HBZ ⊢
            clear hwC HS8
            have HSTD := hid (HSTZ.out.set HBS.out 3 (.int .u64 (sv : Int)))
            have HBD := hid (show Blk (wC.setCell ⟨B, 3, none⟩ (.int .u64 (sv : Int))) B #[.int .i64 ((1 + r1 : Nat) : Int), .int .i64 (opsF r2 : Int), .int .u64 (h : Int), .int .u64 (sv : Int), .int .i64 ((0 : Nat) : Int)] 36 from HBZ.out.set 3 _)
            have b3 := HBZ.out.cell 3 rfl
            have z3 := HBZ.out.frozen 3
            have b0 := HBZ.out.cell 0 rfl
            have b1 := HBZ.out.cell 1 rfl
            have b2 := HBZ.out.cell 2 rfl
            have b4 := HBZ.out.cell 4 rfl
            have z0 := HBZ.out.frozen 0
            have z1 := HBZ.out.frozen 1
            have z2 := HBZ.out.frozen 2
            have z4 := HBZ.out.frozen 4
            have hne : w.heap.size ≠ B := by have := HBS.out; omega
            have hne' : B ≠ w.heap.size := fun e => hne e.symm
            have q0 := HSTZ.out.res.cell 0 rfl
            have q1 := HSTZ.out.res.cell 1 rfl
            have q2 := HSTZ.out.res.cell 2 rfl
            have q3 := HSTZ.out.res.cell 3 rfl
            have q4 := HSTZ.out.res.cell 4 rfl
            have y0 := HSTZ.out.res.frozen 0
            have y1 := HSTZ.out.res.frozen 1
            have y2 := HSTZ.out.res.frozen 2
            have y3 := HSTZ.out.res.frozen 3
            have y4 := HSTZ.out.res.frozen 4
            go_wp2
            refine bodyPost_ret (v := evv ((1 + r1 : Nat) : Int) (opsF r2) h (sv) ((0 : Nat))) (by simp [results, Try.results23, go_sem, evv, b0, b1, b2, b3, b4, q0, q1, q2, q3, q4, hne, hne']) rfl ?_
            refine HSTD.out.made (by omega) ?_ (by omega) (by omega) (by omega) (by omega) (fun q => ?_)
            · exact evok_made r1 r2 ((0 : Nat)) hr1 hr2 (Nat.zero_le _)
            · repeat (refine okset ?_ HSTD.out.gw.1 (by omega))
              exact q
          · have h7' : ((r7 : Int) == 0) = false := by simp; omega
            have b0 := HBY.out.cell 0 rfl
            have b1 := HBY.out.cell 1 rfl
            have b2 := HBY.out.cell 2 rfl
            have b3 := HBY.out.cell 3 rfl
            have b4 := HBY.out.cell 4 rfl
            have z0 := HBY.out.frozen 0
            have z1 := HBY.out.frozen 1
            have z2 := HBY.out.frozen 2
            have z3 := HBY.out.frozen 3
            have z4 := HBY.out.frozen 4
            have q0 := HSTY.out.res.cell 0 rfl
            have q1 := HSTY.out.res.cell 1 rfl
            have q2 := HSTY.out.res.cell 2 rfl
            have q3 := HSTY.out.res.cell 3 rfl
            have q4 := HSTY.out.res.cell 4 rfl
            have y0 := HSTY.out.res.frozen 0
            have y1 := HSTY.out.res.frozen 1
            have y2 := HSTY.out.res.frozen 2
            have y3 := HSTY.out.res.frozen 3
            have y4 := HSTY.out.res.frozen 4
            go_wp2
            refine bodyPost_ret (v := evv ((1 + r1 : Nat) : Int) (opsF r2) h (r4) ((0 : Nat))) (by simp [results, Try.results23, go_sem, evv, b0, b1, b2, b3, b4, q0, q1, q2, q3, q4]) rfl ?_
            refine HSTY.out.made (by omega) ?_ (by omega) (by omega) (by omega) (by omega) (fun q => ?_)
            · exact evok_made r1 r2 ((0 : Nat)) hr1 hr2 (Nat.zero_le _)
            · repeat (refine okset ?_ HSTY.out.gw.1 (by omega))
              exact q
    · simp only [List.getElem_toArray, List.getElem_cons_zero, List.getElem_cons_succ]
      go_simp
      have HST3 := hid (HST2.out.alloc (.cells #[.int .i64 0, .int .i64 0, .int .u64 0, .int .u64 0, .int .i64 0] 36))
      have HBX := hid (show Blk (w2.alloc (.cells #[.int .i64 0, .int .i64 0, .int .u64 0, .int .u64 0, .int .i64 0] 36)) w2.heap.size #[.int .i64 0, .int .i64 0, .int .u64 0, .int .u64 0, .int .i64 0] 36 from heap_alloc_new w2 _)
      have HBS := hid HST2.out.ge
      obtain ⟨B, hB⟩ : ∃ B, B = w2.heap.size := ⟨_, rfl⟩
      have hgB : g < B := by have := HBS.out; have := HG.out; omega
      rw [← hB] at HBX HBS
      refine hK.out _ _ ?_ (fun hH3 => ?_)
      · exact HST3.out.ops
      try simp only [Act.put, List.setIfInBounds_toArray, List.set_cons_zero, List.set_cons_succ]
      simp only [← hB]
      clear hB
      obtain ⟨w3, hw3⟩ : ∃ w3, w3 = w2.alloc (.cells #[.int .i64 0, .int .i64 0, .int .u64 0, .int .u64 0, .int .i64 0] 36) := ⟨_, rfl⟩
      simp only [← hw3] at hH3 HST3 HBX ⊢
      clear hw3
      refine wpAnyH_ready (rs := [5]) (by kernel_rfl) (by simp) ?_
      refine AllReadyH.cons rfl (fun K hK => ?_) AllReadyH.nil
      simp only [List.getElem_toArray, List.getElem_cons_zero, List.getElem_cons_succ]
      go_simp
      refine (next_any lo hi g n _ 13 w3 HST3.out.tp (by omega) (by omega) (by omega)).mono ?_
      rintro e w4 ⟨r2, hr2, rfl, ht, hg⟩
      have hq2 : (r2 : Int) < 13 := by omega
      have HST4 := hid (HST3.out.next ht hg)
      have HBX := hid (Blk.go HBX.out hg hgB)
      refine hK.out _ _ HST4.out.ops (fun hH4 => ?_)
      clear ht hg
      try simp only [Act.put, List.setIfInBounds_toArray, List.set_cons_zero, List.set_cons_succ]
      refine wpAnyH_take (i := 6) (v := ?_) rfl (by kernel_rfl) (by kernel_rfl) (by kernel_rfl) (fun _ _ _ h => h) (Or.inl ⟨by rfl, ?_⟩) hH4 ?_
      rotate_left
      · (intro w hSw; go_simp; try (with_reducible rfl))
      try simp only [Act.put, List.getElem_toArray, List.getElem_cons_zero, List.getElem_cons_succ, List.setIfInBounds_toArray, List.set_cons_zero, List.set_cons_succ]
      refine wpAnyH_take (i := 7) (v := ?_) rfl (by kernel_rfl) (by kernel_rfl) (by kernel_rfl) (fun _ _ _ h => h) (Or.inl ⟨by rfl, ?_⟩) hH4 ?_
      rotate_left
      · (intro w hSw; have hc := ops_cell hSw hr2; go_simp; try (with_reducible rfl))
      try simp only [Act.put, List.getElem_toArray, List.getElem_cons_zero, List.getElem_cons_succ, List.setIfInBounds_toArray, List.set_cons_zero, List.set_cons_succ]
      refine wpAnyH_ready (rs := [9]) (by kernel_rfl) (by simp) ?_
      refine AllReadyH.cons rfl (fun K hK => ?_) AllReadyH.nil
      simp only [List.getElem_toArray, List.getElem_cons_zero, List.getElem_cons_succ]
      go_simp
      refine (word_any lo hi g n _ w4 HST4.out.tp (by omega)).mono ?_
      rintro e w5 ⟨v, i', hv0, hv1, rfl, hi1, hi2', ht, hg⟩
      obtain ⟨h, rfl⟩ := Int.eq_ofNat_of_zero_le hv0
      have HST5 := hid (HST4.out.next ht hg)
      have HBX := hid (Blk.go HBX.out hg hgB)
      refine hK.out _ _ HST5.out.ops (fun hH5 => ?_)
      clear ht hg
      try simp only [Act.put, List.setIfInBounds_toArray, List.set_cons_zero, List.set_cons_succ]
      refine wpAnyH_ready (rs := [11]) (by kernel_rfl) (by simp) ?_
      refine AllReadyH.cons rfl (fun K hK => ?_) AllReadyH.nil
      simp only [List.getElem_toArray, List.getElem_cons_zero, List.getElem_cons_succ]
      go_simp
      refine (next_any lo hi g n _ 4 w5 HST5.out.tp (by omega) (by omega) (by omega)).mono ?_
      rintro e w6 ⟨r4, hr4, rfl, ht, hg⟩
      have hq4 : (r4 : Int) % 18446744073709551616 = (r4 : Int) := by omega
      have HST6 := hid (HST5.out.next ht hg)
      have HBX := hid (Blk.go HBX.out hg hgB)
      refine hK.out _ _ HST6.out.ops (fun hH6 => ?_)
      clear ht hg
      try simp only [Act.put, List.setIfInBounds_toArray, List.set_cons_zero, List.set_cons_succ]
      refine wpAnyH_take (i := 12) (v := ?_) rfl (by kernel_rfl) (by kernel_rfl) (by kernel_rfl) (fun _ _ _ h => h) (Or.inl ⟨by rfl, ?_⟩) hH6 ?_
      rotate_left
      · (intro w hSw; go_simp; try (with_reducible rfl))
      try simp only [Act.put, List.getElem_toArray, List.getElem_cons_zero, List.getElem_cons_succ, List.setIfInBounds_toArray, List.set_cons_zero, List.set_cons_succ]
      refine wpAnyH_take (i := 13) (v := ?_) rfl (by kernel_rfl) (by kernel_rfl) (by kernel_rfl) (fun _ _ _ h => h) (Or.inl ⟨by rfl, ?_⟩) hH6 ?_
      rotate_left
      · (intro w hSw; go_simp; try (with_reducible rfl))
      try simp only [Act.put, List.getElem_toArray, List.getElem_cons_zero, List.getElem_cons_succ, List.setIfInBounds_toArray, List.set_cons_zero, List.set_cons_succ]
      have b0 := HBX.out.cell 0 rfl
      have b1 := HBX.out.cell 1 rfl
      have b2 := HBX.out.cell 2 rfl
      have b3 := HBX.out.cell 3 rfl
      have b4 := HBX.out.cell 4 rfl
      have z0 := HBX.out.frozen 0
      have z1 := HBX.out.frozen 1
      have z2 := HBX.out.frozen 2
      have z3 := HBX.out.frozen 3
      have z4 := HBX.out.frozen 4
      refine wpAnyH_ready (rs := [15]) (by kernel_rfl) (by simp) ?_
      refine AllReadyH.cons rfl (fun K hK => ?_) AllReadyH.nil
      simp only [List.getElem_toArray, List.getElem_cons_zero, List.getElem_cons_succ]
      go_simp
      clear b0 z0 b1 z1 b2 z2 b3 z3 b4 z4
      have e1 : IntKind.i64.wrap (1 + (r1 : Int)) = ((1 + r1 : Nat) : Int) := by simp [IntKind.wrap, IntKind.bits, IntKind.signed]; omega
      have e4 : IntKind.u64.wrap (r4 : Int) = (r4 : Int) := by rw [IntKind.wrap_u64]; omega
      simp only [e1, e4]
      clear e1 e4
      have HBT := hid (show Blk (((((w6.setCell ⟨B, 0, none⟩ (.int .i64 ((1 + r1 : Nat) : Int))).setCell ⟨B, 1, none⟩ (.int .i64 (opsF r2 : Int))).setCell ⟨B, 2, none⟩ (.int .u64 (h : Int))).setCell ⟨B, 3, none⟩ (.int .u64 (r4 : Int))).setCell ⟨B, 4, none⟩ (.int .i64 0)) B #[.int .i64 ((1 + r1 : Nat) : Int), .int .i64 (opsF r2 : Int), .int .u64 (h : Int), .int .u64 (r4 : Int), .int .i64 ((0 : Nat) : Int)] 36 from (((((HBX.out.set 0 (.int .i64 ((1 + r1 : Nat) : Int))).set 1 (.int .i64 (opsF r2 : Int))).set 2 (.int .u64 (h : Int))).set 3 (.int .u64 (r4 : Int))).set 4 (.int .i64 0)))
      have HSTT := hid (((((HST6.out.set HBS.out 0 (.int .i64 ((1 + r1 : Nat) : Int))).set HBS.out 1 (.int .i64 (opsF r2 : Int))).set HBS.out 2 (.int .u64 (h : Int))).set HBS.out 3 (.int .u64 (r4 : Int))).set HBS.out 4 (.int .i64 0))
      obtain ⟨wT, hwT⟩ : ∃ wT, wT = (((((w6.setCell ⟨B, 0, none⟩ (.int .i64 ((1 + r1 : Nat) : Int))).setCell ⟨B, 1, none⟩ (.int .i64 (opsF r2 : Int))).setCell ⟨B, 2, none⟩ (.int .u64 (h : Int))).setCell ⟨B, 3, none⟩ (.int .u64 (r4 : Int))).setCell ⟨B, 4, none⟩ (.int .i64 0)) := ⟨_, rfl⟩
      simp only [← hwT] at HBT HSTT ⊢
      refine hK.out _ _ HSTT.out.ops (fun _ => ?_)
      clear hK hwT HBX
      refine wpAnyH_done (by kernel_rfl) ?_ _
      refine NoPanic.normal ?_
      go_wp2_with fail
      refine (next_any lo hi g n _ 3 wT HSTT.out.tp (by omega) (by omega) (by omega)).mono ?_
      rintro e wU ⟨r5, hr5, rfl, ht, hg⟩
      have HSTU := hid (HSTT.out.next ht hg)
      have HBU := hid (Blk.go HBT.out hg hgB)
      clear ht hg
      by_cases h5 : r5 = 0
      · subst h5
        go_wp2_with fail
        refine (next_any lo hi g n _ 30 wU HSTU.out.tp (by omega) (by omega) (by omega)).mono ?_
        rintro e wV ⟨r6, hr6, rfl, ht, hg⟩
        have HSTV := hid (HSTU.out.next ht hg)
        have HBV := hid (Blk.go HBU.out hg hgB)
        clear ht hg
        have hq6 : wrap64 (r6 : Int) = (r6 : Int) := by unfold wrap64; omega
        have b4 := HBV.out.cell 4 rfl
        have z4 := HBV.out.frozen 4
        have HSTX := hid (HSTV.out.set HBS.out 4 (.int .i64 (r6 : Int)))
        have HBXX := hid (show Blk (wV.setCell ⟨B, 4, none⟩ (.int .i64 (r6 : Int))) B #[.int .i64 ((1 + r1 : Nat) : Int), .int .i64 (opsF r2 : Int), .int .u64 (h : Int), .int .u64 (r4 : Int), .int .i64 (r6 : Int)] 36 from HBV.out.set 4 _)
        go_wp2_with fail
        clear b4 z4 hq6
        obtain ⟨wX, hwX⟩ : ∃ wX, wX = wV.setCell ⟨B, 4, none⟩ (.int .i64 (r6 : Int)) := ⟨_, rfl⟩
        simp only [← hwX] at HSTX HBXX ⊢
        clear hwX
        refine (next_any lo hi g n _ 9 wX HSTX.out.tp (by omega) (by omega) (by omega)).mono ?_
        rintro e wY ⟨r7, hr7, rfl, ht, hg⟩
        have HSTY := hid (HSTX.out.next ht hg)
        have HBY := hid (Blk.go HBXX.out hg hgB)
        clear ht hg
        by_cases h7 : r7 = 0
        · subst h7
          go_wp2_with fail
          refine (next_any lo hi g n _ 256 wY HSTY.out.tp (by omega) (by omega) (by omega)).mono ?_
          rintro e wZ ⟨r8, hr8, rfl, ht, hg⟩
          have HSTZ := hid ((HSTY.out.next ht hg).alloc (.cells #[.int .u8 (r8 : Int)] 5))
          have HBZ := hid (Blk.below (Blk.go HBY.out hg hgB) (below_new wZ #[.int .u8 (r8 : Int)] 5))
          clear ht hg
          have hq8 : r8 % 256 = r8 := by omega
          have HS8 := hid (one_byte wZ r8 hr8)
          go_wp2_with fail
          refine (rsum_any (some ⟨wZ.heap.size, 0, none⟩) 1 1 _ [UInt8.ofNat r8] _ rfl HS8.out (by decide)).mono ?_
          rintro e wA ⟨rfl, rfl⟩
          obtain ⟨sv, hsv⟩ : ∃ sv, sv = fnv fStart [UInt8.ofNat r8] := ⟨_, rfl⟩
          have hsl : sv < 18446744073709551616 := by rw [hsv]; exact fnv_lt _ _ fStart_lt
          rw [← hsv]
          clear hsv
          obtain ⟨wC, hwC⟩ : ∃ wC, wC = wZ.alloc (.cells #[.int .u8 (r8 : Int)] 5) := ⟨_, rfl⟩
          simp only [← hwC] at HSTZ HBZ ⊢
          clear hwC HS8
          have HSTD := hid (HSTZ.out.set HBS.out 3 (.int .u64 (sv : Int)))
          have HBD := hid (show Blk (wC.setCell ⟨B, 3, none⟩ (.int .u64 (sv : Int))) B #[.int .i64 ((1 + r1 : Nat) : Int), .int .i64 (opsF r2 : Int), .int .u64 (h : Int), .int .u64 (sv : Int), .int .i64 (r6 : Int)] 36 from HBZ.out.set 3 _)
          have b3 := HBZ.out.cell 3 rfl
          have z3 := HBZ.out.frozen 3
          have b0 := HBZ.out.cell 0 rfl
          have b1 := HBZ.out.cell 1 rfl
          have b2 := HBZ.out.cell 2 rfl
          have b4 := HBZ.out.cell 4 rfl
          have z0 := HBZ.out.frozen 0
          have z1 := HBZ.out.frozen 1
          have z2 := HBZ.out.frozen 2
          have z4 := HBZ.out.frozen 4
          have hne : w.heap.size ≠ B := by have := HBS.out; omega
          have hne' : B ≠ w.heap.size := fun e => hne e.symm
          have q0 := HSTZ.out.res.cell 0 rfl
          have q1 := HSTZ.out.res.cell 1 rfl
          have q2 := HSTZ.out.res.cell 2 rfl
          have q3 := HSTZ.out.res.cell 3 rfl
          have q4 := HSTZ.out.res.cell 4 rfl
          have y0 := HSTZ.out.res.frozen 0
          have y1 := HSTZ.out.res.frozen 1
          have y2 := HSTZ.out.res.frozen 2
          have y3 := HSTZ.out.res.frozen 3
          have y4 := HSTZ.out.res.frozen 4
          go_wp2
          refine bodyPost_ret (v := evv ((1 + r1 : Nat) : Int) (opsF r2) h (sv) (r6)) (by simp [results, Try.results23, go_sem, evv, b0, b1, b2, b3, b4, q0, q1, q2, q3, q4, hne, hne']) rfl ?_
          refine HSTD.out.made (by omega) ?_ (by omega) (by omega) (by omega) (by omega) (fun q => ?_)
          · exact evok_made r1 r2 (r6) hr1 hr2 (Nat.le_of_lt_succ hr6)
          · repeat (refine okset ?_ HSTD.out.gw.1 (by omega))
            exact q
        · have h7' : ((r7 : Int) == 0) = false := by simp; omega
          have b0 := HBY.out.cell 0 rfl
          have b1 := HBY.out.cell 1 rfl
          have b2 := HBY.out.cell 2 rfl
          have b3 := HBY.out.cell 3 rfl
          have b4 := HBY.out.cell 4 rfl
          have z0 := HBY.out.frozen 0
          have z1 := HBY.out.frozen 1
          have z2 := HBY.out.frozen 2
          have z3 := HBY.out.frozen 3
          have z4 := HBY.out.frozen 4
          have q0 := HSTY.out.res.cell 0 rfl
          have q1 := HSTY.out.res.cell 1 rfl
          have q2 := HSTY.out.res.cell 2 rfl
          have q3 := HSTY.out.res.cell 3 rfl
          have q4 := HSTY.out.res.cell 4 rfl
          have y0 := HSTY.out.res.frozen 0
          have y1 := HSTY.out.res.frozen 1
          have y2 := HSTY.out.res.frozen 2
          have y3 := HSTY.out.res.frozen 3
          have y4 := HSTY.out.res.frozen 4
          go_wp2
          refine bodyPost_ret (v := evv ((1 + r1 : Nat) : Int) (opsF r2) h (r4) (r6)) (by simp [results, Try.results23, go_sem, evv, b0, b1, b2, b3, b4, q0, q1, q2, q3, q4]) rfl ?_
          refine HSTY.out.made (by omega) ?_ (by omega) (by omega) (by omega) (by omega) (fun q => ?_)
          · exact evok_made r1 r2 (r6) hr1 hr2 (Nat.le_of_lt_succ hr6)
          · repeat (refine okset ?_ HSTY.out.gw.1 (by omega))
            exact q
      · have h5' : ((r5 : Int) == 0) = false := by simp; omega
        go_wp2_with fail
        refine (next_any lo hi g n _ 9 wU HSTU.out.tp (by omega) (by omega) (by omega)).mono ?_
        rintro e wY ⟨r7, hr7, rfl, ht, hg⟩
        have HSTY := hid (HSTU.out.next ht hg)
        have HBY := hid (Blk.go HBU.out hg hgB)
        clear ht hg
        by_cases h7 : r7 = 0
        · subst h7
          go_wp2_with fail
          refine (next_any lo hi g n _ 256 wY HSTY.out.tp (by omega) (by omega) (by omega)).mono ?_
          rintro e wZ ⟨r8, hr8, rfl, ht, hg⟩
          have HSTZ := hid ((HSTY.out.next ht hg).alloc (.cells #[.int .u8 (r8 : Int)] 5))
          have HBZ := hid (Blk.below (Blk.go HBY.out hg hgB) (below_new wZ #[.int .u8 (r8 : Int)] 5))
          clear ht hg
          have hq8 : r8 % 256 = r8 := by omega
          have HS8 := hid (one_byte wZ r8 hr8)
          go_wp2_with fail
          refine (rsum_any (some ⟨wZ.heap.size, 0, none⟩) 1 1 _ [UInt8.ofNat r8] _ rfl HS8.out (by decide)).mono ?_
          rintro e wA ⟨rfl, rfl⟩
          obtain ⟨sv, hsv⟩ : ∃ sv, sv = fnv fStart [UInt8.ofNat r8] := ⟨_, rfl⟩
          have hsl : sv < 18446744073709551616 := by rw [hsv]; exact fnv_lt _ _ fStart_lt
          rw [← hsv]
          clear hsv
          obtain ⟨wC, hwC⟩ : ∃ wC, wC = wZ.alloc (.cells #[.int .u8 (r8 : Int)] 5) := ⟨_, rfl⟩
          simp only [← hwC] at HSTZ HBZ ⊢
          clear hwC HS8
          have HSTD := hid (HSTZ.out.set HBS.out 3 (.int .u64 (sv : Int)))
          have HBD := hid (show Blk (wC.setCell ⟨B, 3, none⟩ (.int .u64 (sv : Int))) B #[.int .i64 ((1 + r1 : Nat) : Int), .int .i64 (opsF r2 : Int), .int .u64 (h : Int), .int .u64 (sv : Int), .int .i64 ((0 : Nat) : Int)] 36 from HBZ.out.set 3 _)
          have b3 := HBZ.out.cell 3 rfl
          have z3 := HBZ.out.frozen 3
          have b0 := HBZ.out.cell 0 rfl
          have b1 := HBZ.out.cell 1 rfl
          have b2 := HBZ.out.cell 2 rfl
          have b4 := HBZ.out.cell 4 rfl
          have z0 := HBZ.out.frozen 0
          have z1 := HBZ.out.frozen 1
          have z2 := HBZ.out.frozen 2
          have z4 := HBZ.out.frozen 4
          have hne : w.heap.size ≠ B := by have := HBS.out; omega
          have hne' : B ≠ w.heap.size := fun e => hne e.symm
          have q0 := HSTZ.out.res.cell 0 rfl
          have q1 := HSTZ.out.res.cell 1 rfl
          have q2 := HSTZ.out.res.cell 2 rfl
          have q3 := HSTZ.out.res.cell 3 rfl
          have q4 := HSTZ.out.res.cell 4 rfl
          have y0 := HSTZ.out.res.frozen 0
          have y1 := HSTZ.out.res.frozen 1
          have y2 := HSTZ.out.res.frozen 2
          have y3 := HSTZ.out.res.frozen 3
          have y4 := HSTZ.out.res.frozen 4
          go_wp2
          refine bodyPost_ret (v := evv ((1 + r1 : Nat) : Int) (opsF r2) h (sv) ((0 : Nat))) (by simp [results, Try.results23, go_sem, evv, b0, b1, b2, b3, b4, q0, q1, q2, q3, q4, hne, hne']) rfl ?_
          refine HSTD.out.made (by omega) ?_ (by omega) (by omega) (by omega) (by omega) (fun q => ?_)
          · exact evok_made r1 r2 ((0 : Nat)) hr1 hr2 (Nat.zero_le _)
          · repeat (refine okset ?_ HSTD.out.gw.1 (by omega))
            exact q
        · have h7' : ((r7 : Int) == 0) = false := by simp; omega
          have b0 := HBY.out.cell 0 rfl
          have b1 := HBY.out.cell 1 rfl
          have b2 := HBY.out.cell 2 rfl
          have b3 := HBY.out.cell 3 rfl
          have b4 := HBY.out.cell 4 rfl
          have z0 := HBY.out.frozen 0
          have z1 := HBY.out.frozen 1
          have z2 := HBY.out.frozen 2
          have z3 := HBY.out.frozen 3
          have z4 := HBY.out.frozen 4
          have q0 := HSTY.out.res.cell 0 rfl
          have q1 := HSTY.out.res.cell 1 rfl
          have q2 := HSTY.out.res.cell 2 rfl
          have q3 := HSTY.out.res.cell 3 rfl
          have q4 := HSTY.out.res.cell 4 rfl
          have y0 := HSTY.out.res.frozen 0
          have y1 := HSTY.out.res.frozen 1
          have y2 := HSTY.out.res.frozen 2
          have y3 := HSTY.out.res.frozen 3
          have y4 := HSTY.out.res.frozen 4
          go_wp2
          refine bodyPost_ret (v := evv ((1 + r1 : Nat) : Int) (opsF r2) h (r4) ((0 : Nat))) (by simp [results, Try.results23, go_sem, evv, b0, b1, b2, b3, b4, q0, q1, q2, q3, q4]) rfl ?_
          refine HSTY.out.made (by omega) ?_ (by omega) (by omega) (by omega) (by omega) (fun q => ?_)
          · exact evok_made r1 r2 ((0 : Nat)) hr1 hr2 (Nat.zero_le _)
          · repeat (refine okset ?_ HSTY.out.gw.1 (by omega))
            exact q
  · simp only [List.getElem_toArray, List.getElem_cons_zero, List.getElem_cons_succ]
    go_simp
    have HST2 := hid (HST1.out.alloc (.cells #[.int .i64 0, .int .i64 0, .int .u64 0, .int .u64 0, .int .i64 0] 36))
    have HBX := hid (show Blk (w1.alloc (.cells #[.int .i64 0, .int .i64 0, .int .u64 0, .int .u64 0, .int .i64 0] 36)) w1.heap.size #[.int .i64 0, .int .i64 0, .int .u64 0, .int .u64 0, .int .i64 0] 36 from heap_alloc_new w1 _)
    have HBS := hid HST1.out.ge
    obtain ⟨B, hB⟩ : ∃ B, B = w1.heap.size := ⟨_, rfl⟩
    have hgB : g < B := by have := HBS.out; have := HG.out; omega
    rw [← hB] at HBX HBS
    refine hK.out _ _ ?_ (fun hH2 => ?_)
    · exact HST2.out.ops
    try simp only [Act.put, List.setIfInBounds_toArray, List.set_cons_zero, List.set_cons_succ]
    simp only [← hB]
    clear hB
    obtain ⟨w2, hw2⟩ : ∃ w2, w2 = w1.alloc (.cells #[.int .i64 0, .int .i64 0, .int .u64 0, .int .u64 0, .int .i64 0] 36) := ⟨_, rfl⟩
    simp only [← hw2] at hH2 HST2 HBX ⊢
    clear hw2
    refine wpAnyH_ready (rs := [1]) (by kernel_rfl) (by simp) ?_
    refine AllReadyH.cons rfl (fun K hK => ?_) AllReadyH.nil
    simp only [List.getElem_toArray, List.getElem_cons_zero, List.getElem_cons_succ]
    go_simp
    refine (next_any lo hi g n _ 3 w2 HST2.out.tp (by omega) (by omega) (by omega)).mono ?_
    rintro e w3 ⟨r1, hr1, rfl, ht, hg⟩
    have hq1 : wrap64 (1 + (r1 : Int)) = ((1 + r1 : Nat) : Int) := by unfold wrap64; omega
    have HST3 := hid (HST2.out.next ht hg)
    have HBX := hid (Blk.go HBX.out hg hgB)
    refine hK.out _ _ HST3.out.ops (fun hH3 => ?_)
    clear ht hg
    try simp only [Act.put, List.setIfInBounds_toArray, List.set_cons_zero, List.set_cons_succ]
    refine wpAnyH_take (i := 2) (v := ?_) rfl (by kernel_rfl) (by kernel_rfl) (by kernel_rfl) (fun _ _ _ h => h) (Or.inl ⟨by rfl, ?_⟩) hH3 ?_
    rotate_left
    · (intro w hSw; go_simp; try (with_reducible rfl))
    try simp only [Act.put, List.getElem_toArray, List.getElem_cons_zero, List.getElem_cons_succ, List.setIfInBounds_toArray, List.set_cons_zero, List.set_cons_succ]
    refine wpAnyH_ready (rs := [5]) (by kernel_rfl) (by simp) ?_
    refine AllReadyH.cons rfl (fun K hK => ?_) AllReadyH.nil
    simp only [List.getElem_toArray, List.getElem_cons_zero, List.getElem_cons_succ]
    go_simp
    refine (next_any lo hi g n _ 13 w3 HST3.out.tp (by omega) (by omega) (by omega)).mono ?_
    rintro e w4 ⟨r2, hr2, rfl, ht, hg⟩
    have hq2 : (r2 : Int) < 13 := by omega
    have HST4 := hid (HST3.out.next ht hg)
    have HBX := hid (Blk.go HBX.out hg hgB)
    refine hK.out _ _ HST4.out.ops (fun hH4 => ?_)
    clear ht hg
    try simp only [Act.put, List.setIfInBounds_toArray, List.set_cons_zero, List.set_cons_succ]
    refine wpAnyH_take (i := 6) (v := ?_) rfl (by kernel_rfl) (by kernel_rfl) (by kernel_rfl) (fun _ _ _ h => h) (Or.inl ⟨by rfl, ?_⟩) hH4 ?_
    rotate_left
    · (intro w hSw; go_simp; try (with_reducible rfl))
    try simp only [Act.put, List.getElem_toArray, List.getElem_cons_zero, List.getElem_cons_succ, List.setIfInBounds_toArray, List.set_cons_zero, List.set_cons_succ]
    refine wpAnyH_take (i := 7) (v := ?_) rfl (by kernel_rfl) (by kernel_rfl) (by kernel_rfl) (fun _ _ _ h => h) (Or.inl ⟨by rfl, ?_⟩) hH4 ?_
    rotate_left
    · (intro w hSw; have hc := ops_cell hSw hr2; go_simp; try (with_reducible rfl))
    try simp only [Act.put, List.getElem_toArray, List.getElem_cons_zero, List.getElem_cons_succ, List.setIfInBounds_toArray, List.set_cons_zero, List.set_cons_succ]
    refine wpAnyH_ready (rs := [9]) (by kernel_rfl) (by simp) ?_
    refine AllReadyH.cons rfl (fun K hK => ?_) AllReadyH.nil
    simp only [List.getElem_toArray, List.getElem_cons_zero, List.getElem_cons_succ]
    go_simp
    refine (word_any lo hi g n _ w4 HST4.out.tp (by omega)).mono ?_
    rintro e w5 ⟨v, i', hv0, hv1, rfl, hi1, hi2', ht, hg⟩
    obtain ⟨h, rfl⟩ := Int.eq_ofNat_of_zero_le hv0
    have HST5 := hid (HST4.out.next ht hg)
    have HBX := hid (Blk.go HBX.out hg hgB)
    refine hK.out _ _ HST5.out.ops (fun hH5 => ?_)
    clear ht hg
    try simp only [Act.put, List.setIfInBounds_toArray, List.set_cons_zero, List.set_cons_succ]
    refine wpAnyH_ready (rs := [11]) (by kernel_rfl) (by simp) ?_
    refine AllReadyH.cons rfl (fun K hK => ?_) AllReadyH.nil
    simp only [List.getElem_toArray, List.getElem_cons_zero, List.getElem_cons_succ]
    go_simp
    refine (next_any lo hi g n _ 4 w5 HST5.out.tp (by omega) (by omega) (by omega)).mono ?_
    rintro e w6 ⟨r4, hr4, rfl, ht, hg⟩
    have hq4 : (r4 : Int) % 18446744073709551616 = (r4 : Int) := by omega
    have HST6 := hid (HST5.out.next ht hg)
    have HBX := hid (Blk.go HBX.out hg hgB)
    refine hK.out _ _ HST6.out.ops (fun hH6 => ?_)
    clear ht hg
    try simp only [Act.put, List.setIfInBounds_toArray, List.set_cons_zero, List.set_cons_succ]
    refine wpAnyH_take (i := 12) (v := ?_) rfl (by kernel_rfl) (by kernel_rfl) (by kernel_rfl) (fun _ _ _ h => h) (Or.inl ⟨by rfl, ?_⟩) hH6 ?_
    rotate_left
    · (intro w hSw; go_simp; try (with_reducible rfl))
    try simp only [Act.put, List.getElem_toArray, List.getElem_cons_zero, List.getElem_cons_succ, List.setIfInBounds_toArray, List.set_cons_zero, List.set_cons_succ]
    refine wpAnyH_take (i := 13) (v := ?_) rfl (by kernel_rfl) (by kernel_rfl) (by kernel_rfl) (fun _ _ _ h => h) (Or.inl ⟨by rfl, ?_⟩) hH6 ?_
    rotate_left
    · (intro w hSw; go_simp; try (with_reducible rfl))
    try simp only [Act.put, List.getElem_toArray, List.getElem_cons_zero, List.getElem_cons_succ, List.setIfInBounds_toArray, List.set_cons_zero, List.set_cons_succ]
    have b0 := HBX.out.cell 0 rfl
    have b1 := HBX.out.cell 1 rfl
    have b2 := HBX.out.cell 2 rfl
    have b3 := HBX.out.cell 3 rfl
    have b4 := HBX.out.cell 4 rfl
    have z0 := HBX.out.frozen 0
    have z1 := HBX.out.frozen 1
    have z2 := HBX.out.frozen 2
    have z3 := HBX.out.frozen 3
    have z4 := HBX.out.frozen 4
    refine wpAnyH_ready (rs := [15]) (by kernel_rfl) (by simp) ?_
    refine AllReadyH.cons rfl (fun K hK => ?_) AllReadyH.nil
    simp only [List.getElem_toArray, List.getElem_cons_zero, List.getElem_cons_succ]
    go_simp
    clear b0 z0 b1 z1 b2 z2 b3 z3 b4 z4
    have e1 : IntKind.i64.wrap (1 + (r1 : Int)) = ((1 + r1 : Nat) : Int) := by simp [IntKind.wrap, IntKind.bits, IntKind.signed]; omega
    have e4 : IntKind.u64.wrap (r4 : Int) = (r4 : Int) := by rw [IntKind.wrap_u64]; omega
    simp only [e1, e4]
    clear e1 e4
    have HBT := hid (show Blk (((((w6.setCell ⟨B, 0, none⟩ (.int .i64 ((1 + r1 : Nat) : Int))).setCell ⟨B, 1, none⟩ (.int .i64 (opsF r2 : Int))).setCell ⟨B, 2, none⟩ (.int .u64 (h : Int))).setCell ⟨B, 3, none⟩ (.int .u64 (r4 : Int))).setCell ⟨B, 4, none⟩ (.int .i64 0)) B #[.int .i64 ((1 + r1 : Nat) : Int), .int .i64 (opsF r2 : Int), .int .u64 (h : Int), .int .u64 (r4 : Int), .int .i64 ((0 : Nat) : Int)] 36 from (((((HBX.out.set 0 (.int .i64 ((1 + r1 : Nat) : Int))).set 1 (.int .i64 (opsF r2 : Int))).set 2 (.int .u64 (h : Int))).set 3 (.int .u64 (r4 : Int))).set 4 (.int .i64 0)))
    have HSTT := hid (((((HST6.out.set HBS.out 0 (.int .i64 ((1 + r1 : Nat) : Int))).set HBS.out 1 (.int .i64 (opsF r2 : Int))).set HBS.out 2 (.int .u64 (h : Int))).set HBS.out 3 (.int .u64 (r4 : Int))).set HBS.out 4 (.int .i64 0))
    obtain ⟨wT, hwT⟩ : ∃ wT, wT = (((((w6.setCell ⟨B, 0, none⟩ (.int .i64 ((1 + r1 : Nat) : Int))).setCell ⟨B, 1, none⟩ (.int .i64 (opsF r2 : Int))).setCell ⟨B, 2, none⟩ (.int .u64 (h : Int))).setCell ⟨B, 3, none⟩ (.int .u64 (r4 : Int))).setCell ⟨B, 4, none⟩ (.int .i64 0)) := ⟨_, rfl⟩
    simp only [← hwT] at HBT HSTT ⊢
    refine hK.out _ _ HSTT.out.ops (fun _ => ?_)
    clear hK hwT HBX
    refine wpAnyH_done (by kernel_rfl) ?_ _
    refine NoPanic.normal ?_
    go_wp2_with fail
    refine (next_any lo hi g n _ 3 wT HSTT.out.tp (by omega) (by omega) (by omega)).mono ?_
    rintro e wU ⟨r5, hr5, rfl, ht, hg⟩
    have HSTU := hid (HSTT.out.next ht hg)
    have HBU := hid (Blk.go HBT.out hg hgB)
    clear ht hg
    by_cases h5 : r5 = 0
    · subst h5
      go_wp2_with fail
      refine (next_any lo hi g n _ 30 wU HSTU.out.tp (by omega) (by omega) (by omega)).mono ?_
      rintro e wV ⟨r6, hr6, rfl, ht, hg⟩
      have HSTV := hid (HSTU.out.next ht hg)
      have HBV := hid (Blk.go HBU.out hg hgB)
      clear ht hg
      have hq6 : wrap64 (r6 : Int) = (r6 : Int) := by unfold wrap64; omega
      have b4 := HBV.out.cell 4 rfl
      have z4 := HBV.out.frozen 4
      have HSTX := hid (HSTV.out.set HBS.out 4 (.int .i64 (r6 : Int)))
      have HBXX := hid (show Blk (wV.setCell ⟨B, 4, none⟩ (.int .i64 (r6 : Int))) B #[.int .i64 ((1 + r1 : Nat) : Int), .int .i64 (opsF r2 : Int), .int .u64 (h : Int), .int .u64 (r4 : Int), .int .i64 (r6 : Int)] 36 from HBV.out.set 4 _)
      go_wp2_with fail
      clear b4 z4 hq6
      obtain ⟨wX, hwX⟩ : ∃ wX, wX = wV.setCell ⟨B, 4, none⟩ (.int .i64 (r6 : Int)) := ⟨_, rfl⟩
      simp only [← hwX] at HSTX HBXX ⊢
      clear hwX
      refine (next_any lo hi g n _ 9 wX HSTX.out.tp (by omega) (by omega) (by omega)).mono ?_
      rintro e wY ⟨r7, hr7, rfl, ht, hg⟩
      have HSTY := hid (HSTX.out.next ht hg)
      have HBY := hid (Blk.go HBXX.out hg hgB)
      clear ht hg
      by_cases h7 : r7 = 0
      · subst h7
        go_wp2_with fail
        refine (next_any lo hi g n _ 256 wY HSTY.out.tp (by omega) (by omega) (by omega)).mono ?_
        rintro e wZ ⟨r8, hr8, rfl, ht, hg⟩
        have HSTZ := hid ((HSTY.out.next ht hg).alloc (.cells #[.int .u8 (r8 : Int)] 5))
        have HBZ := hid (Blk.below (Blk.go HBY.out hg hgB) (below_new wZ #[.int .u8 (r8 : Int)] 5))
        clear ht hg
        have hq8 : r8 % 256 = r8 := by omega
        have HS8 := hid (one_byte wZ r8 hr8)
        go_wp2_with fail
        refine (rsum_any (some ⟨wZ.heap.size, 0, none⟩) 1 1 _ [UInt8.ofNat r8] _ rfl HS8.out (by decide)).mono ?_
        rintro e wA ⟨rfl, rfl⟩
        obtain ⟨sv, hsv⟩ : ∃ sv, sv = fnv fStart [UInt8.ofNat r8] := ⟨_, rfl⟩
        have hsl : sv < 18446744073709551616 := by rw [hsv]; exact fnv_lt _ _ fStart_lt
        rw [← hsv]
        clear hsv
        obtain ⟨wC, hwC⟩ : ∃ wC, wC = wZ.alloc (.cells #[.int .u8 (r8 : Int)] 5) := ⟨_, rfl⟩
        simp only [← hwC] at HSTZ HBZ ⊢
        clear hwC HS8
        have HSTD := hid (HSTZ.out.set HBS.out 3 (.int .u64 (sv : Int)))
        have HBD := hid (show Blk (wC.setCell ⟨B, 3, none⟩ (.int .u64 (sv : Int))) B #[.int .i64 ((1 + r1 : Nat) : Int), .int .i64 (opsF r2 : Int), .int .u64 (h : Int), .int .u64 (sv : Int), .int .i64 (r6 : Int)] 36 from HBZ.out.set 3 _)
        have b3 := HBZ.out.cell 3 rfl
        have z3 := HBZ.out.frozen 3
        have b0 := HBZ.out.cell 0 rfl
        have b1 := HBZ.out.cell 1 rfl
        have b2 := HBZ.out.cell 2 rfl
        have b4 := HBZ.out.cell 4 rfl
        have z0 := HBZ.out.frozen 0
        have z1 := HBZ.out.frozen 1
        have z2 := HBZ.out.frozen 2
        have z4 := HBZ.out.frozen 4
        have hne : w.heap.size ≠ B := by have := HBS.out; omega
        have hne' : B ≠ w.heap.size := fun e => hne e.symm
        have q0 := HSTZ.out.res.cell 0 rfl
        have q1 := HSTZ.out.res.cell 1 rfl
        have q2 := HSTZ.out.res.cell 2 rfl
        have q3 := HSTZ.out.res.cell 3 rfl
        have q4 := HSTZ.out.res.cell 4 rfl
        have y0 := HSTZ.out.res.frozen 0
        have y1 := HSTZ.out.res.frozen 1
        have y2 := HSTZ.out.res.frozen 2
        have y3 := HSTZ.out.res.frozen 3
        have y4 := HSTZ.out.res.frozen 4
        go_wp2
        refine bodyPost_ret (v := evv ((1 + r1 : Nat) : Int) (opsF r2) h (sv) (r6)) (by simp [results, Try.results23, go_sem, evv, b0, b1, b2, b3, b4, q0, q1, q2, q3, q4, hne, hne']) rfl ?_
        refine HSTD.out.made (by omega) ?_ (by omega) (by omega) (by omega) (by omega) (fun q => ?_)
        · exact evok_made r1 r2 (r6) hr1 hr2 (Nat.le_of_lt_succ hr6)
        · repeat (refine okset ?_ HSTD.out.gw.1 (by omega))
          exact q
      · have h7' : ((r7 : Int) == 0) = false := by simp; omega
        have b0 := HBY.out.cell 0 rfl
        have b1 := HBY.out.cell 1 rfl
        have b2 := HBY.out.cell 2 rfl
        have b3 := HBY.out.cell 3 rfl
        have b4 := HBY.out.cell 4 rfl
        have z0 := HBY.out.frozen 0
        have z1 := HBY.out.frozen 1
        have z2 := HBY.out.frozen 2
        have z3 := HBY.out.frozen 3
        have z4 := HBY.out.frozen 4
        have q0 := HSTY.out.res.cell 0 rfl
        have q1 := HSTY.out.res.cell 1 rfl
        have q2 := HSTY.out.res.cell 2 rfl
        have q3 := HSTY.out.res.cell 3 rfl
        have q4 := HSTY.out.res.cell 4 rfl
        have y0 := HSTY.out.res.frozen 0
        have y1 := HSTY.out.res.frozen 1
        have y2 := HSTY.out.res.frozen 2
        have y3 := HSTY.out.res.frozen 3
        have y4 := HSTY.out.res.frozen 4
        go_wp2
        refine bodyPost_ret (v := evv ((1 + r1 : Nat) : Int) (opsF r2) h (r4) (r6)) (by simp [results, Try.results23, go_sem, evv, b0, b1, b2, b3, b4, q0, q1, q2, q3, q4]) rfl ?_
        refine HSTY.out.made (by omega) ?_ (by omega) (by omega) (by omega) (by omega) (fun q => ?_)
        · exact evok_made r1 r2 (r6) hr1 hr2 (Nat.le_of_lt_succ hr6)
        · repeat (refine okset ?_ HSTY.out.gw.1 (by omega))
          exact q
    · have h5' : ((r5 : Int) == 0) = false := by simp; omega
      go_wp2_with fail
      refine (next_any lo hi g n _ 9 wU HSTU.out.tp (by omega) (by omega) (by omega)).mono ?_
      rintro e wY ⟨r7, hr7, rfl, ht, hg⟩
      have HSTY := hid (HSTU.out.next ht hg)
      have HBY := hid (Blk.go HBU.out hg hgB)
      clear ht hg
      by_cases h7 : r7 = 0
      · subst h7
        go_wp2_with fail
        refine (next_any lo hi g n _ 256 wY HSTY.out.tp (by omega) (by omega) (by omega)).mono ?_
        rintro e wZ ⟨r8, hr8, rfl, ht, hg⟩
        have HSTZ := hid ((HSTY.out.next ht hg).alloc (.cells #[.int .u8 (r8 : Int)] 5))
        have HBZ := hid (Blk.below (Blk.go HBY.out hg hgB) (below_new wZ #[.int .u8 (r8 : Int)] 5))
        clear ht hg
        have hq8 : r8 % 256 = r8 := by omega
        have HS8 := hid (one_byte wZ r8 hr8)
        go_wp2_with fail
        refine (rsum_any (some ⟨wZ.heap.size, 0, none⟩) 1 1 _ [UInt8.ofNat r8] _ rfl HS8.out (by decide)).mono ?_
        rintro e wA ⟨rfl, rfl⟩
        obtain ⟨sv, hsv⟩ : ∃ sv, sv = fnv fStart [UInt8.ofNat r8] := ⟨_, rfl⟩
        have hsl : sv < 18446744073709551616 := by rw [hsv]; exact fnv_lt _ _ fStart_lt
        rw [← hsv]
        clear hsv
        obtain ⟨wC, hwC⟩ : ∃ wC, wC = wZ.alloc (.cells #[.int .u8 (r8 : Int)] 5) := ⟨_, rfl⟩
        simp only [← hwC] at HSTZ HBZ ⊢
        clear hwC HS8
        have HSTD := hid (HSTZ.out.set HBS.out 3 (.int .u64 (sv : Int)))
        have HBD := hid (show Blk (wC.setCell ⟨B, 3, none⟩ (.int .u64 (sv : Int))) B #[.int .i64 ((1 + r1 : Nat) : Int), .int .i64 (opsF r2 : Int), .int .u64 (h : Int), .int .u64 (sv : Int), .int .i64 ((0 : Nat) : Int)] 36 from HBZ.out.set 3 _)
        have b3 := HBZ.out.cell 3 rfl
        have z3 := HBZ.out.frozen 3
        have b0 := HBZ.out.cell 0 rfl
        have b1 := HBZ.out.cell 1 rfl
        have b2 := HBZ.out.cell 2 rfl
        have b4 := HBZ.out.cell 4 rfl
        have z0 := HBZ.out.frozen 0
        have z1 := HBZ.out.frozen 1
        have z2 := HBZ.out.frozen 2
        have z4 := HBZ.out.frozen 4
        have hne : w.heap.size ≠ B := by have := HBS.out; omega
        have hne' : B ≠ w.heap.size := fun e => hne e.symm
        have q0 := HSTZ.out.res.cell 0 rfl
        have q1 := HSTZ.out.res.cell 1 rfl
        have q2 := HSTZ.out.res.cell 2 rfl
        have q3 := HSTZ.out.res.cell 3 rfl
        have q4 := HSTZ.out.res.cell 4 rfl
        have y0 := HSTZ.out.res.frozen 0
        have y1 := HSTZ.out.res.frozen 1
        have y2 := HSTZ.out.res.frozen 2
        have y3 := HSTZ.out.res.frozen 3
        have y4 := HSTZ.out.res.frozen 4
        go_wp2
        refine bodyPost_ret (v := evv ((1 + r1 : Nat) : Int) (opsF r2) h (sv) ((0 : Nat))) (by simp [results, Try.results23, go_sem, evv, b0, b1, b2, b3, b4, q0, q1, q2, q3, q4, hne, hne']) rfl ?_
        refine HSTD.out.made (by omega) ?_ (by omega) (by omega) (by omega) (by omega) (fun q => ?_)
        · exact evok_made r1 r2 ((0 : Nat)) hr1 hr2 (Nat.zero_le _)
        · repeat (refine okset ?_ HSTD.out.gw.1 (by omega))
          exact q
      · have h7' : ((r7 : Int) == 0) = false := by simp; omega
        have b0 := HBY.out.cell 0 rfl
        have b1 := HBY.out.cell 1 rfl
        have b2 := HBY.out.cell 2 rfl
        have b3 := HBY.out.cell 3 rfl
        have b4 := HBY.out.cell 4 rfl
        have z0 := HBY.out.frozen 0
        have z1 := HBY.out.frozen 1
        have z2 := HBY.out.frozen 2
        have z3 := HBY.out.frozen 3
        have z4 := HBY.out.frozen 4
        have q0 := HSTY.out.res.cell 0 rfl
        have q1 := HSTY.out.res.cell 1 rfl
        have q2 := HSTY.out.res.cell 2 rfl
        have q3 := HSTY.out.res.cell 3 rfl
        have q4 := HSTY.out.res.cell 4 rfl
        have y0 := HSTY.out.res.frozen 0
        have y1 := HSTY.out.res.frozen 1
        have y2 := HSTY.out.res.frozen 2
        have y3 := HSTY.out.res.frozen 3
        have y4 := HSTY.out.res.frozen 4
        go_wp2
        refine bodyPost_ret (v := evv ((1 + r1 : Nat) : Int) (opsF r2) h (r4) ((0 : Nat))) (by simp [results, Try.results23, go_sem, evv, b0, b1, b2, b3, b4, q0, q1, q2, q3, q4]) rfl ?_
        refine HSTY.out.made (by omega) ?_ (by omega) (by omega) (by omega) (by omega) (fun q => ?_)
        · exact evok_made r1 r2 ((0 : Nat)) hr1 hr2 (Nat.zero_le _)
        · repeat (refine okset ?_ HSTY.out.gw.1 (by omega))
          exact q
end Go.Proofs.Ytmhmaodnkifcaaa
