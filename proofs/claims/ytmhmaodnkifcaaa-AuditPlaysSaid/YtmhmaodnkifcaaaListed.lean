/-
  The law's listed: the events of a log, in order.
-/
import Derived.Maps.AppendAt
import Derived.Test.YtmhmaodnkifcaaaIter
namespace Go.Proofs.Ytmhmaodnkifcaaa
open Go.RowKit Go.Shelf
attribute [local go_sem] Oper.semAt_some
set_option linter.unusedSimpArgs false
set_option linter.unusedVariables false

/-- A log as its readers see it: nil, or in a block. -/
def LV (w : World) (pa : Option Addr) (cap : Nat) (es : List Ev) (mis : Int → Nat) : Prop :=
  (pa = none ∧ es = [] ∧ cap = 0 ∧ mis = fun _ => 0) ∨ ∃ g F q, pa = some ⟨g, 0, none⟩ ∧ LogAt w F g cap es mis q ∧ q < 1000
theorem LV.below {w w' : World} {pa : Option Addr} {cap : Nat} {es : List Ev} {mis : Int → Nat} (h : LV w pa cap es mis) (hb : Below w.heap.size w w') : LV w' pa cap es mis := by
  rcases h with h | ⟨g, F, q, h1, h2, h3⟩
  · exact .inl h
  · exact .inr ⟨g, F, q, h1, h2.below hb, h3⟩
theorem LV.iter {w w' : World} {pa : Option Addr} {cap : Nat} {es : List Ev} {mis : Int → Nat} (h : LV w pa cap es mis) (hb : Below w.heap.size w w') {n₁ B : Nat} (hn : w.heap.size ≤ n₁) (hB : w.heap.size ≤ B) : IterV n₁ B w' pa es := by
  rcases h with h | ⟨g, F, q, h1, h2, h3⟩
  · exact .inl ⟨h.1, h.2.1⟩
  · obtain ⟨A1, c1, A2, c2, d, m4, m5, hX, _⟩ := h2.open
    have hg := hX.fs g hX.f0
    refine .inr ⟨g, A1, c1, h1, by omega, by omega, (hb.cell (p := ⟨g, 1, none⟩) hg).trans (hX.blk.cell 1 rfl), own_le hX.r1, ?_⟩
    rcases Sl.of_own hX.r1 with h | ⟨b, off, e1, e2, e3⟩
    · left
      have := evs_len es
      rw [h] at this
      exact List.eq_nil_of_length_eq_zero (by simp at this; omega)
    · exact .inr ⟨b, off, e1, by omega, by omega, fun j u hu => (hb.cell (p := ⟨b, off + j, none⟩) e2).trans (e3 j u hu)⟩
theorem LV.len {w : World} {pa : Option Addr} {cap : Nat} {es : List Ev} {mis : Int → Nat} (h : LV w pa cap es mis) : es.length ≤ 1000 := by
  rcases h with h | ⟨g, F, q, h1, h2, h3⟩
  · rw [h.2.1]; simp
  · obtain ⟨A1, c1, A2, c2, d, m4, m5, hX, _, _, hq, _⟩ := h2.open
    omega
theorem LV.right {w : World} {pa : Option Addr} {cap : Nat} {es : List Ev} {mis : Int → Nat} (h : LV w pa cap es mis) : ∀ e ∈ es, Right e := by
  rcases h with h | ⟨g, F, q, h1, h2, h3⟩
  · rw [h.2.1]; simp
  · obtain ⟨A1, c1, A2, c2, d, m4, m5, hX, _, hR, _⟩ := h2.open
    exact hR
/-- 'out = append(out, ..)' where out's box lies below what the row may take. -/
theorem appendedK {W w1 : World} {n₁ B size : Nat} {t e : TypeId} {v v' : Value} {k m : Nat} {xs ys : List Value} {tmp : Obj}
    (hv : Boxed W B t v) (hte : t ≠ e) (hrow : W.ownsRow n₁ e size v k xs) (hn₁ : n₁ ≤ W.heap.size) (hB : B < n₁)
    (hown' : w1.ownsRow n₁ e size v' m ys) (hgrow : (W.alloc tmp).grownBy w1 v.ownBlock) :
    (Boxed w1 B t v ∧ Boxed (w1.setCell ⟨B, 0, none⟩ v') B t v') ∧ (w1.setCell ⟨B, 0, none⟩ v').ownsRow n₁ e size v' m ys ∧ KeepsOthers W (w1.setCell ⟨B, 0, none⟩ v') ∧ Below B W (w1.setCell ⟨B, 0, none⟩ v') ∧ Ko n₁ B W (w1.setCell ⟨B, 0, none⟩ v') := by
  obtain ⟨h1, h2, _, h4, h5⟩ := hv.appended hte (own_base hrow (Nat.le_of_lt hB)) (by omega) (Nat.le_refl _) (own_base hown' (Nat.le_of_lt hB)) hgrow
  refine ⟨⟨h1, h2⟩, hown'.kept (grownBy_setCell' w1 B v') (.inr (h1.not_row hte hown').symm), h4, h5, ⟨fun j hj hne => ?_, h5.size⟩⟩
  have e1 : (w1.setCell ⟨B, 0, none⟩ v').heap[j]? = w1.heap[j]? := Below.heap_setCell _ _ _ j hne
  have e2 : w1.heap[j]? = (W.alloc tmp).heap[j]? := hgrow.block j (by simp; omega) (fun e' => by have := (hrow.lt j e'.symm).1; omega)
  have e3 : (W.alloc tmp).heap[j]? = W.heap[j]? := Below.heap_alloc W tmp j (by omega)
  exact e1.trans (e2.trans e3)
theorem blk_own {β : Type} (B : Nat) (cs : β → Array Value) (t : TypeId) : Own (fun s W => Blk W B (cs s) t) := fun s A W row hs hg hr =>
  (hg.block B hs.lt (fun e => by
    obtain ⟨o, ho, hc⟩ := hr B e.symm
    rw [show A.heap[B]? = _ from hs] at ho
    injection ho with ho
    subst ho
    cases hc)).trans hs
theorem cells_new_ev (W : World) (p o h a x : Nat) : ∀ j u, (evc (p, o, h, a, x))[j]? = some u → (W.alloc (.cells #[.int .i64 (p : Int), .int .i64 (o : Int), .int .u64 (h : Int), .int .u64 (a : Int), .int .i64 (x : Int)] 36)).cell? ((⟨W.heap.size, 0, none⟩ : Addr).add j) = some u := by
  intro j u hu
  rw [Addr.add_lit, Nat.zero_add]
  exact Blk.cell (cs := #[.int .i64 (p : Int), .int .i64 (o : Int), .int .u64 (h : Int), .int .u64 (a : Int), .int .i64 (x : Int)]) (heap_alloc_new W _) j (by simpa [evc] using hu)
theorem il_all (es : List Ev) : il (fun _ => true) es es.length = (List.range es.length).map fun i => (i, es[i]?.getD (0, 0, 0, 0, 0)) := by
  unfold il
  rw [List.filter_eq_self.2]
  intro i hi
  have : i < es.length := by simpa using hi
  simp [this]
theorem il_snd (es : List Ev) : (il (fun _ => true) es es.length).map (·.2) = es := by
  rw [il_all, List.map_map]
  apply List.ext_getElem
  · simp
  · intro i h1 h2
    simp [h2]
theorem il_idx (es : List Ev) : ∀ k, k ≤ es.length → ∀ (q : List (Nat × Ev)) (x : Nat × Ev), il (fun _ => true) es k = q ++ [x] → x.1 = q.length := by
  intro k hk q x h
  have e : il (fun _ => true) es k = (List.range k).map fun i => (i, es[i]?.getD (0, 0, 0, 0, 0)) := by
    unfold il
    rw [List.filter_eq_self.2]
    intro i hi
    have : i < es.length := by have := List.mem_range.1 hi; omega
    simp [this]
  rw [e] at h
  have hl := congrArg List.length h
  simp at hl
  have h2 := congrArg (fun l => l[q.length]?) h
  simp [show q.length < k by omega] at h2
  rw [← h2]
/-- What stays between two rounds of listed. -/
def LsI (w : World) (n₁ : Nat) (pre : List (Nat × Ev)) (W : World) : Prop :=
  (((∃ v, Boxed W (w.heap.size + 1 + 1) 24 v ∧ W.ownsRow n₁ 36 5 v pre.length (evs (pre.map (·.2))) ∧ True) ∧ Boxed W w.heap.size 24 (.slice none 0 0)) ∧ Boxed W (w.heap.size + 1) 4 (.bool false)) ∧ (Below w.heap.size w W ∧ n₁ ≤ W.heap.size)
def LsX (c : Code) (pre : List (Nat × Ev)) (_ : World) : Prop := c = .ret ∧ ∃ (q : List (Nat × Ev)) (x : Nat × Ev), pre = q ++ [x] ∧ x.1 ≠ q.length
theorem lsI_own (w : World) (n₁ : Nat) (hn : w.heap.size ≤ n₁) : OwnFrom n₁ (LsI w n₁) :=
  OwnFrom.and (OwnFrom.and (OwnFrom.and (Own.from (holdsRow_own n₁ (w.heap.size + 1 + 1) 24 36 5 (fun pre : List (Nat × Ev) => pre.length) (fun pre : List (Nat × Ev) => evs (pre.map (·.2))) (fun _ _ => True)) _) (Own.from (boxed_own _ _ (fun _ => .slice none 0 0)) _)) (Own.from (boxed_own _ _ (fun _ => .bool false)) _)) (OwnFrom.and (ownFrom_below (Nat.le_refl _) hn) (fun s A B row hs hg hr => Nat.le_trans hs hg.size))
theorem evs_snoc2 (pre : List (Nat × Ev)) (x : Nat × Ev) : evs ((pre ++ [x]).map (·.2)) = evs (pre.map (·.2)) ++ evc x.2 := by simp [evs]
theorem size_setCell' (W : World) (a : Addr) (v : Value) : (W.setCell a v).heap.size = W.heap.size := heap_set W a v
/-- What listed returns. -/
def LsMade (w : World) (es : List Ev) (e : Ending) (w' : World) : Prop :=
  ∃ A c, e = .returned (.tuple #[.slice A es.length c, .bool true]) ∧ w'.ownsRow w.heap.size 36 5 (.slice A es.length c) es.length (evs es) ∧ Below w.heap.size w w'

set_option maxRecDepth 100000 in
set_option maxHeartbeats 2000000 in
theorem listed_in (pa : Option Addr) (cap : Nat) (es : List Ev) (mis : Int → Nat) (w : World) (h : LV w pa cap es mis) :
    CallsIn Fence.wide 6 Try.prog 54 #[.pointer pa] w (LsMade w es) := by
  have HV := hid h
  have HM := hid h.len
  clear h
  obtain ⟨i0, hi, hz0, hz1, hz2⟩ := info_parts info_ev
  refine callsIn_of_wp_marks Try.func54 rfl trivial ?_ rfl
  simp only [Try.ntmps54, List.size_toArray, List.length_cons, List.length_nil, Nat.reduceAdd, Nat.reduceSub, Array.replicate_succ, Array.replicate_zero, List.push_toArray, List.append_toArray, List.nil_append, List.cons_append]
  gi_wp2_with fail
  refine ⟨trivial, callsIn_wide.2 ((all_any pa _).mono ?_)⟩
  rintro e w1 ⟨rfl, hw1⟩
  have HB1 := hid (show Below w.heap.size w w1 by
    rw [hw1]
    exact below_go (below_go (below_go (below_go (below_new w _ _) (below_new _ _ _)) (below_new _ _ _)) (below_new _ _ _)) (below_new _ _ _))
  have HSZ := hid (show w1.heap.size = w.heap.size + 5 by rw [hw1]; simp)
  have bR := ((((Boxed.new w 24 (.slice none 0 0)).alloc (.cells #[.bool false] 4)).alloc (.cells #[.slice none 0 0] 24)).alloc (.cells #[.pointer pa] 28)).alloc (.cells #[.func (.func 71) #[] #[]] 83)
  have bK := (((Boxed.new (w.alloc (.cells #[.slice none 0 0] 24)) 4 (.bool false)).alloc (.cells #[.slice none 0 0] 24)).alloc (.cells #[.pointer pa] 28)).alloc (.cells #[.func (.func 71) #[] #[]] 83)
  have bO := ((Boxed.new ((w.alloc (.cells #[.slice none 0 0] 24)).alloc (.cells #[.bool false] 4)) 24 (.slice none 0 0)).alloc (.cells #[.pointer pa] 28)).alloc (.cells #[.func (.func 71) #[] #[]] 83)
  have bL := (Boxed.new (((w.alloc (.cells #[.slice none 0 0] 24)).alloc (.cells #[.bool false] 4)).alloc (.cells #[.slice none 0 0] 24)) 28 (.pointer pa)).alloc (.cells #[.func (.func 71) #[] #[]] 83)
  have bF := Boxed.new ((((w.alloc (.cells #[.slice none 0 0] 24)).alloc (.cells #[.bool false] 4)).alloc (.cells #[.slice none 0 0] 24)).alloc (.cells #[.pointer pa] 28)) 83 (.func (.func 71) #[] #[])
  rw [← hw1] at bR bK bO bL bF
  simp only [World.size_alloc] at bK bO bL bF ⊢
  have HIV := hid (HV.out.iter HB1.out (n₁ := w1.heap.size) (B := w.heap.size + 1 + 1) HB1.out.size (by omega))
  have HBX := hid (And.intro bR (And.intro bK bO))
  have HBL := hid (And.intro bL bF)
  have hsz1 : w.heap.size + 5 ≤ w1.heap.size := by have := HSZ.out; omega
  have hsz2 : w1.heap.size ≤ w.heap.size + 5 := by have := HSZ.out; omega
  clear hw1 bR bK bO bL bF
  gi_wp2_with fail
  refine wpIn_rangeFunc_ownH rfl (by omega) (gf := 72) (lb := #[.pointer (some ⟨w.heap.size + 1 + 1 + 1, 0, none⟩), .pointer (some ⟨w.heap.size + 1 + 1 + 1 + 1, 0, none⟩)]) rfl trivial (enters_of Try.func72 (by kernel_rfl) rfl)
    (all_stops (6 - 1) (by omega) (w.heap.size + 1 + 1 + 1) (w.heap.size + 1 + 1 + 1 + 1) w1.heap.size (w.heap.size + 1 + 1) pa es HM.out w1 (Nat.le_refl _) (by omega) (by omega) (by omega) (by omega) HBL.out.1.cell HBL.out.2.cell HIV.out) ko_t (ko_b (Nat.le_refl _)) (Below.refl _ _) (fun _ => rfl)
    (LsI w w1.heap.size) LsX (lsI_own w _ HB1.out.size)
    (fun c s A B row hs hg hr => by exact hs)
    ⟨⟨⟨⟨_, HBX.out.2.2, World.ownsRow_nil _ _ _ _, trivial⟩, HBX.out.1⟩, HBX.out.2.1⟩, HB1.out, Nat.le_refl _⟩
    (fun x a' W => ∃ Bx, w1.heap.size ≤ Bx ∧ Blk W Bx #[.int .i64 (x.2.1 : Int), .int .i64 (x.2.2.1 : Int), .int .u64 (x.2.2.2.1 : Int), .int .u64 (x.2.2.2.2.1 : Int), .int .i64 (x.2.2.2.2.2 : Int)] 36 ∧ a' = { tmps := #[.pointer pa, undef, .pointer (some ⟨w.heap.size, 0, none⟩), .pointer (some ⟨w.heap.size + 1, 0, none⟩), .pointer (some ⟨w.heap.size + 1 + 1, 0, none⟩), .int .i64 (x.1 : Int), .pointer (some ⟨Bx, 0, none⟩), .pointer pa, .func (.func 72) #[] #[.pointer (some ⟨w.heap.size + 1 + 1 + 1, 0, none⟩), .pointer (some ⟨w.heap.size + 1 + 1 + 1 + 1, 0, none⟩)], .int .i64 (x.1 : Int), .agg #[.int .i64 (x.2.1 : Int), .int .i64 (x.2.2.1 : Int), .int .u64 (x.2.2.2.1 : Int), .int .u64 (x.2.2.2.2.1 : Int), .int .i64 (x.2.2.2.2.2 : Int)], undef, undef, undef, undef, undef, undef, undef, undef, undef], defers := [] })
    (fun x a' _ X Y row hs hg hr => by obtain ⟨Bx, h1, h2, h3⟩ := hs; exact ⟨Bx, h1, blk_own Bx (fun (_ : Unit) => _) _ () X Y row h2 hg (fun r e => (hr r e).2), h3⟩)
    ?assign ?body ?done ?stop
  case assign =>
    rintro l pre x W K ⟨⟨⟨⟨v, hv, hrow, _⟩, b2⟩, b3⟩, hB, hsw⟩ hK
    simp only [encI, List.zip_toArray, List.zip_cons_cons, List.zip_nil_right, List.foldl_toArray, List.foldl_cons, List.foldl_nil, List.setIfInBounds_toArray, List.set_cons_zero, List.set_cons_succ]
    gi_wp2
    exact hK _ _ ((KeepsOthers.alloc _ _).from _) (ko_below (below_new W _ _) hsw) ⟨⟨⟨⟨v, hv.alloc _, hrow.alloc _, trivial⟩, b2.alloc _⟩, b3.alloc _⟩, below_go hB (below_new W _ _), Nat.le_trans hsw (below_new W _ _).size⟩ ⟨W.heap.size, hsw, heap_alloc_new W _, rfl⟩
  case body =>
    rintro l pre x a' W hl ⟨r, hr⟩ ⟨⟨⟨⟨v, hv, hrow, _⟩, b2⟩, b3⟩, hB, hsw⟩ ⟨Bx, hBx, bX, rfl⟩ hlt
    have hc := hv.cell
    have c2 := b2.cell
    have f2 := b2.frozen
    have c3 := b3.cell
    have f3 := b3.frozen
    obtain ⟨Av, cv, rfl, _, _⟩ := own_form hrow
    have HBX := hid bX
    have x0 := bX.cell 0 rfl
    have x1 := bX.cell 1 rfl
    have x2 := bX.cell 2 rfl
    have x3 := bX.cell 3 rfl
    have x4 := bX.cell 4 rfl
    clear bX
    have hm := HM.out
    obtain ⟨i, p, o, h, a, y⟩ := x
    simp only at x0 x1 x2 x3 x4 ⊢
    by_cases hix : i = pre.length
    · subst hix
      gi_wp2_with (gi_at_builtin; refine wpListIn_append_own _ rfl _ _ 24 rfl w1.heap.size 36 i0 _ 5 40 Try.underlying24 hi hz0 hz1 hz2 rfl (by decide) _ _ _ rfl (hrow.alloc _) ⟨W.heap.size, 0, none⟩ 1 1 (evc (p, o, h, a, y)) rfl rfl (cells_new_ev W p o h a y) (evc_one _) (by unfold maxLen; omega) (by omega) (by simp; omega) ?_; intro v' w9 hown' hgrow _; obtain ⟨g', cap', rfl⟩ := ownsRow_succ hown'; obtain ⟨⟨hv1, hv2⟩, hr2, hk2, hb2, hko⟩ := appendedK hv (by decide) hrow hsw (by omega) hown' hgrow; have hc1 := hv1.cell; have hf1 := hv1.frozen)
      exact ⟨hk2.from _, hko, ⟨⟨⟨_, hv2, by rw [evs_snoc2, List.length_append]; exact hr2, trivial⟩, (hko.1 _ (by omega) (by omega)).trans b2⟩, (hko.1 _ (by omega) (by omega)).trans b3⟩, hB.trans (hb2.mono (by omega)), Nat.le_trans hsw hb2.size⟩
    · have hin : ((i : Int) == (pre.length : Int)) = false := by simp; omega
      have hin2 : ¬ (i : Int) = (pre.length : Int) := by omega
      gi_wp2
      exact ⟨((KeepsOthers.setCell _ _ _).trans (KeepsOthers.setCell _ _ _)).from _, rfl, pre, _, rfl, hix⟩
  case done =>
    rintro D xs W hD rfl ⟨⟨⟨⟨v, hv, hrow, _⟩, b2⟩, b3⟩, hB, hsw⟩ hK
    have hll : (il (fun _ => true) es es.length).length = es.length := by have := congrArg List.length (il_snd es); simpa using this
    rw [hll, il_snd] at hrow
    clear hll
    have HB2 := hid b2
    have HB3 := hid b3
    have HRW := hid hrow
    have HBB := hid hB
    have HKK := hid hK
    have hc := hv.cell
    have c2 := b2.cell
    have f2 := b2.frozen
    have c3 := b3.cell
    have f3 := b3.frozen
    obtain ⟨Av, cv, rfl, _, _⟩ := own_form hrow
    clear hv b2 b3 hrow hB hK
    gi_wp2
    clear hc c2 c3 f2 f3
    obtain ⟨V, hV⟩ : ∃ V, V = (W.setCell ⟨w.heap.size, 0, none⟩ (.slice Av es.length cv)).setCell ⟨w.heap.size + 1, 0, none⟩ (.bool true) := ⟨_, rfl⟩
    have hg2 : ∀ k, k ≠ w.heap.size → k ≠ w.heap.size + 1 → V.heap[k]? = W.heap[k]? := fun k h1 h2 => by
      rw [hV]
      exact (Below.heap_setCell _ _ _ k h2).trans (Below.heap_setCell _ _ _ k h1)
    have e2 : Boxed V w.heap.size 24 (.slice Av es.length cv) := by rw [hV]; exact (HB2.out.set _).other (by omega) _
    have e3 : Boxed V (w.heap.size + 1) 4 (.bool true) := by rw [hV]; exact (HB3.out.other (by omega) _).set _
    have hBV : Below w.heap.size w V := by rw [hV]; exact (HBB.out.setCell (Nat.le_refl _) _).setCell (by simp) _
    have hKV : V.heap[D]? = some (.deferred (some [])) := (hg2 D (by omega) (by omega)).trans HKK.out
    have hRV := own_kept HRW.out (w' := V) (fun b hb => hg2 b (by have := own_lt HRW.out b hb; omega) (by have := own_lt HRW.out b hb; omega))
    rw [← hV]
    clear hV
    refine ⟨by simp, .inl ⟨_, _, rfl, run_takeDeferred hKV, ?_⟩⟩
    have hc2 := cell_kept e2.cell (grownBy_putObj' _ D (.deferred none)) (fun r e => by cases e; exact ⟨_, hKV, rfl⟩)
    have hc3 := cell_kept e3.cell (grownBy_putObj' _ D (.deferred none)) (fun r e => by cases e; exact ⟨_, hKV, rfl⟩)
    refine ⟨.tuple #[.slice Av es.length cv, .bool true], ?_, Av, cv, rfl, own_base (ownsRow_putObj hRV _ hKV rfl) HB1.out.size, hBV.trans (belowK_b (w := w) (Nat.le_refl _) V D _ _ (by omega) hKV rfl rfl)⟩
    simp [results, Try.f54, go_sem, hc2, hc3]
  case stop =>
    rintro D c pre W hD ⟨k, hk, rfl⟩ ⟨_, q, x, hq, hx⟩ _
    exact absurd (il_idx es k hk q x hq) hx
theorem listed_any (pa : Option Addr) (cap : Nat) (es : List Ev) (mis : Int → Nat) (w : World) (h : LV w pa cap es mis) :
    Calls Try.prog 54 #[.pointer pa] w (LsMade w es) := (callsIn_wide (n := 6)).1 (listed_in pa cap es mis w h)
end Go.Proofs.Ytmhmaodnkifcaaa
