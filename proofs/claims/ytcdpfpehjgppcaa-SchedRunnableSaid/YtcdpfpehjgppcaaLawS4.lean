/-
  SchedRunnable walked.
-/
import Derived.Test.YtcdpfpehjgppcaaLawS3
import Derived.Test.YtcdpfpehjgppcaaSchS
import Derived.OneCell
import Derived.Deep.RegionHeld3
import Derived.Maps.AppendAt
import Derived.LoopNIn
namespace Go.Proofs.Ytcdpfpehjgppcaa
open Go.RowKit Go.Shelf
attribute [local go_sem] Oper.semAt_some
set_option linter.unusedSimpArgs false

/-- 'out = append(out, x)' where out's box lies below what the row may take. -/
theorem appendedK {W w1 : World} {n₁ B : Nat} {t e : TypeId} {v v' : Value} {k m : Nat} {xs ys : List Value} {tmp : Obj}
    (hv : Boxed W B t v) (hte : t ≠ e) (hrow : W.ownsRow n₁ e 1 v k xs) (hn₁ : n₁ ≤ W.heap.size) (hB : B < n₁)
    (hown' : w1.ownsRow n₁ e 1 v' m ys) (hgrow : (W.alloc tmp).grownBy w1 v.ownBlock) :
    (Boxed w1 B t v ∧ Boxed (w1.setCell ⟨B, 0, none⟩ v') B t v') ∧ (w1.setCell ⟨B, 0, none⟩ v').ownsRow n₁ e 1 v' m ys ∧ KeepsOthers W (w1.setCell ⟨B, 0, none⟩ v') ∧ Below B W (w1.setCell ⟨B, 0, none⟩ v') ∧ Ko n₁ B W (w1.setCell ⟨B, 0, none⟩ v') := by
  obtain ⟨h1, h2, _, h4, h5⟩ := hv.appended hte (own_base hrow (Nat.le_of_lt hB)) (by omega) (Nat.le_refl _) (own_base hown' (Nat.le_of_lt hB)) hgrow
  refine ⟨⟨h1, h2⟩, hown'.kept (grownBy_setCell' w1 B v') (.inr (h1.not_row hte hown').symm), h4, h5, fun j hj hne => ?_⟩
  have e1 : (w1.setCell ⟨B, 0, none⟩ v').heap[j]? = w1.heap[j]? := Below.heap_setCell _ _ _ j hne
  have e2 : w1.heap[j]? = (W.alloc tmp).heap[j]? := hgrow.block j (by simp; omega) (fun e' => by have := (hrow.lt j e'.symm).1; omega)
  have e3 : (W.alloc tmp).heap[j]? = W.heap[j]? := Below.heap_alloc W tmp j (by omega)
  exact e1.trans (e2.trans e3)
theorem rl_mono (zs : List Int) (m k : Nat) (h : k ≤ m) : (rl zs k).length ≤ (rl zs m).length := by
  induction m with
  | zero => obtain rfl : k = 0 := by omega
            exact Nat.le_refl _
  | succ m ih =>
    by_cases e : k = m + 1
    · rw [e]; exact Nat.le_refl _
    · have := ih (by omega)
      by_cases h1 : zs[m]?.getD 0 = 1
      · rw [rl_hit h1]; simp; omega
      · rw [rl_miss h1]; exact this
/-- Three cells. -/
def S3 (B1 : Nat) (v1 : Value) (B2 : Nat) (v2 : Value) (B3 : Nat) (v3 : Value) (W : World) : Prop := W.cell? ⟨B1, 0, none⟩ = some v1 ∧ W.cell? ⟨B2, 0, none⟩ = some v2 ∧ W.cell? ⟨B3, 0, none⟩ = some v3
theorem s3_go {B1 B2 B3 : Nat} {v1 v2 v3 : Value} {W W' : World} (h : S3 B1 v1 B2 v2 B3 v3 W) (hb : Below W.heap.size W W') : S3 B1 v1 B2 v2 B3 v3 W' := by
  obtain ⟨h1, h2, h3⟩ := h
  exact ⟨(hb.cell (p := ⟨B1, 0, none⟩) (World.block_lt_of_cell? _ _ h1)).trans h1, (hb.cell (p := ⟨B2, 0, none⟩) (World.block_lt_of_cell? _ _ h2)).trans h2, (hb.cell (p := ⟨B3, 0, none⟩) (World.block_lt_of_cell? _ _ h3)).trans h3⟩
theorem kd_put {W : World} {D E : Nat} {x o : Obj} (h : W.heap[D]? = some x) (hne : D < E) : (W.putObj E o).heap[D]? = some x :=
  ((grownBy_putObj' W E o).block D (Array.getElem?_eq_some_iff.1 h).1 (by simp; omega)).trans h
theorem bel_put {w W : World} {D : Nat} (h : Below w.heap.size w W) (hD : w.heap.size ≤ D) (hk : W.heap[D]? = some (.deferred (some []))) : Below w.heap.size w (W.putObj D (.deferred none)) :=
  h.trans (belowK_b (w := w) (Nat.le_refl _) W D _ _ hD hk rfl rfl)
theorem kd_go {W W' : World} {D : Nat} {x : Obj} (h : W.heap[D]? = some x) (hb : Below W.heap.size W W') : W'.heap[D]? = some x := (hb.block D (Array.getElem?_eq_some_iff.1 h).1).trans h

set_option maxRecDepth 100000 in
set_option maxHeartbeats 2000000 in
theorem sruns_in (R : Option Addr) (m cm : Nat) (zs : List Int) (A : Option Addr) (n c : Nat) (l : List UInt8) (st : Nat) (w : World) (hm : zs.length = m) (hrs : Sl w w.heap.size R (nums .i64 zs)) (hn : l.length = n) (hs : Sl w w.heap.size A (bys l)) (h40 : m ≤ 40) :
    CallsIn Fence.wide 3 Try.prog 4 #[.slice R m cm, .slice A n c, .int .u8 st] w fun e w' => e = .returned (.bool true) ∧ Below w.heap.size w w' := by
  have HST := hid (fun (w' : World) (hb : Below w.heap.size w w') => states_any A n c l w' hn (hs.go hb))
  have HSL := hid (stL_len l)
  obtain ⟨ys, hys⟩ : ∃ ys, ys = stL l := ⟨_, rfl⟩
  rw [← hys] at HST HSL
  obtain ⟨k0, hk⟩ : ∃ k, k = ys.length := ⟨_, rfl⟩
  have HK := hid hk
  rw [← hk] at HSL HST
  have hk70 := HSL.out
  have HM := hid hm
  have HRS := hid hrs
  clear hn hs hys hk hm hrs
  refine callsIn_of_wp_marks Try.func4 rfl trivial ?_ rfl
  simp only [Try.ntmps4, List.size_toArray, List.length_cons, List.length_nil, Nat.reduceAdd, Nat.reduceSub, Array.replicate_succ, Array.replicate_zero, List.push_toArray, List.append_toArray, List.nil_append, List.cons_append]
  gi_wp2_with fail
  refine ⟨trivial, callsIn_wide.2 ((awake_any _).mono ?_)⟩
  rintro e w1 ⟨rfl, hb1⟩
  have HB1 := hid (below_go (below_new w #[.int .u8 (st : Int)] 5) hb1)
  have HBX1 := hid (show Boxed w1 w.heap.size 5 (.int .u8 (st : Int)) from (hb1.block w.heap.size (by simp)).trans (Boxed.new w 5 _))
  clear hb1
  gi_wp2_with fail
  refine ⟨trivial, callsIn_wide.2 ((HST.out _ HB1.out).mono ?_)⟩
  rintro e w2 ⟨A2, c2, rfl, ho2, hb2⟩
  have HO2 := hid ho2
  have HB2 := hid (below_go HB1.out hb2)
  have HBX2 := hid (show Boxed w2 w.heap.size 5 (.int .u8 (st : Int)) from (hb2.block w.heap.size HBX1.out.lt).trans HBX1.out)
  clear ho2 hb2
  obtain ⟨V, hV⟩ : ∃ V, V = w2.alloc (.cells #[.slice R m cm, .slice A2 k0 c2] 22) := ⟨_, rfl⟩
  have HVV := hid hV
  have hvb : Below w2.heap.size w2 V := by rw [hV]; exact below_new _ _ _
  have HVB := hid (below_go HB2.out hvb)
  have HVS := hid (show V.heap.size = w2.heap.size + 1 by rw [hV]; simp)
  have HVC0 := hid (show V.cell? ⟨w2.heap.size, 0, none⟩ = some (.slice R m cm) by rw [hV]; simp [go_sem])
  have HVC1 := hid (show V.cell? ⟨w2.heap.size, 1, none⟩ = some (.slice A2 k0 c2) by rw [hV]; simp [go_sem])
  have HVST := hid (show Boxed V w.heap.size 5 (.int .u8 (st : Int)) from (hvb.block w.heap.size HBX2.out.lt).trans HBX2.out)
  have HVR := hid (HRS.out.go HVB.out)
  have HVY := hid ((Sl.of_own HO2.out).go hvb)
  clear hV hvb
  obtain ⟨lim, hlim⟩ : ∃ lim, lim = st % 12 := ⟨_, rfl⟩
  have HMD := hid (show (st : Int).tmod 12 = (lim : Int) by rw [hlim]; rfl)
  have hlim12 : lim < 12 := by omega
  clear hlim
  gi_wp2_with fail
  simp only [← HVV.out]
  clear HVV HST
  have HXu := hid (Below.refl V.heap.size V)
  obtain ⟨i0, hi, hz0, hz1, hz2⟩ := info_parts info_int
  refine wpIn_loop_rounds 3 ?_
  rw [roundsIn_succ]
  have hcs := (HXu.out.cell (p := ⟨w2.heap.size, 0, none⟩) (by rw [HVS.out]; simp)).trans HVC0.out
  have HRNu := hid (runnable_any R m cm zs (V.alloc (.cells #[.slice none 0 0] 22)) HM.out (HVR.out.go (below_go HXu.out (below_new V #[.slice none 0 0] 22))) (by omega))
  gi_wp2_with fail
  refine ⟨trivial, callsIn_wide.2 (HRNu.out.mono ?_)⟩
  rintro e xu ⟨Bsu, Au, cu, rfl, hc3, hB1, hB2, ho3, hb3⟩
  have HCu := hid hc3
  have HBSu := hid (And.intro hB1 hB2)
  have HOIu := hid ho3
  have HBXu := hid (below_go (below_new V #[.slice none 0 0] 22) hb3)
  have HBOu := hid (show Boxed xu V.heap.size 22 (.slice none 0 0) from (hb3.block V.heap.size (by simp)).trans (Boxed.new V 22 (.slice none 0 0)))
  clear hc3 hB1 hB2 ho3 hb3 HRNu
  have hltu : V.heap.size < xu.heap.size := HBOu.out.lt
  have HIKu := hid (show IntsK xu.heap.size V.heap.size xu (.slice Au m cu) zs from by
    rw [← HM.out]
    refine ⟨Au, cu, rfl, fun j hj => ?_⟩
    obtain ⟨b, off, hA, hb, hc⟩ := (Sl.of_own HOIu.out).num hj
    have := own_lt HOIu.out b (by rw [hA]; rfl)
    exact ⟨b, off, hA, hb, by simp at this; omega, by rw [hc]; simp [hj]⟩)
  gi_wp2_with fail
  refine wpIn_rangeFunc_ownG rfl (by omega) (gf := 17) (lb := #[.pointer (some ⟨Bsu, 0, none⟩)]) rfl trivial (enters_of Try.func17 (by kernel_rfl) rfl)
    (iter_stopsK Fence.wide (3 - 1) trivial rfl (by omega) Bsu xu.heap.size V.heap.size _ zs (by rw [HM.out]; omega) xu HBSu.out.2 (Nat.le_refl _) HCu.out HIKu.out) ko_t (ko_b (Nat.le_refl _)) (Below.refl _ _) (fun _ => rfl)
    (fun pre W => (∃ v, Boxed W V.heap.size 22 v ∧ W.ownsRow xu.heap.size 3 1 v pre.length (pre.map (Value.int .i64)) ∧ True) ∧ (Below V.heap.size V W ∧ xu.heap.size ≤ W.heap.size))
    (fun _ _ _ => False)
    (OwnFrom.and (Own.from (holdsRow_own xu.heap.size V.heap.size 22 3 1 (fun pre : List Int => pre.length) (fun pre : List Int => pre.map (Value.int .i64)) (fun _ _ => True)) _) (OwnFrom.and (ownFrom_below (Nat.le_refl _) (by omega)) (fun _ _ _ _ hs hg _ => Nat.le_trans hs hg.size)))
    (fun _ _ _ _ _ hs _ _ => hs)
    ⟨⟨_, HBOu.out, World.ownsRow_nil _ _ _ _, trivial⟩, ⟨HBXu.out, Nat.le_refl _⟩⟩
    ?au ?assignu ?bodyu ?doneu ?stopu
  case assignu =>
    intro l x W K hK
    gi_wp2
    try simp only [List.zip_toArray, List.zip_cons_cons, List.zip_nil_right, List.foldl_toArray, List.foldl_cons, List.foldl_nil, List.setIfInBounds_toArray, List.set_cons_zero, List.set_cons_succ]
    exact hK
  case bodyu =>
    rintro l pre x W ⟨⟨v, hv, hrow, _⟩, hB, hxW⟩ hlt
    have hc := hv.cell
    have hlen70 : pre.length < m := by rw [← HM.out]; exact hlt
    gi_wp2_with (gi_at_builtin; refine wpListIn_append_own _ rfl _ _ 22 rfl xu.heap.size 3 i0 (.int .i64 0) 1 8 Try.underlying22 hi hz0 hz1 hz2 rfl (by decide) _ _ _ rfl (hrow.alloc _) ⟨W.heap.size, 0, none⟩ 1 1 [.int .i64 x] rfl rfl (cell_one_new _ _ _) (by simp [Value.oneCell']) (by unfold maxLen; omega) (by omega) (by simp; omega) ?_; intro v' w9 hown' hgrow _; obtain ⟨g', cap', rfl⟩ := ownsRow_succ hown'; obtain ⟨⟨hv1, hv2⟩, hr2, hk2, hb2, hko⟩ := appendedK hv (by decide) hrow hxW hltu hown' hgrow; have hc1 := hv1.cell; have hf1 := hv1.frozen)
    exact ⟨hk2.from _, hko, ⟨_, hv2, by simpa using hr2, trivial⟩, hB.trans hb2, Nat.le_trans hxW hb2.size⟩
  case stopu =>
    rintro D c pre W _ _ h _
    exact h.elim
  case doneu =>
    rintro Du xs Wu hDu rfl ⟨⟨v, hv, hrow, _⟩, hB, hxW⟩ hK
    obtain ⟨Aou, cou, rfl, _, _⟩ := own_form hrow
    have HBVu := hid hv
    have HRVu := hid hrow
    have HWu := hid hB
    have HXn := hid (below_go HXu.out hB)
    have ge_Du : w.heap.size ≤ Du := by have := HVB.out.size; have := HXu.out.size; omega
    have HKu := hid hK
    clear hv hrow hB hK hxW
    have HRNn := hid (runnable_any R m cm zs (Wu.alloc (.cells #[.int .i64 0] 3)) HM.out (HVR.out.go (below_go HXn.out (below_new Wu #[.int .i64 0] 3))) (by omega))
    gi_wp2_with fail
    refine ⟨trivial, callsIn_wide.2 (HRNn.out.mono ?_)⟩
    rintro e xn ⟨Bsn, An, cn, rfl, hc3, hB1, hB2, ho3, hb3⟩
    have HCn := hid hc3
    have HBSn := hid (And.intro hB1 hB2)
    have HOIn := hid ho3
    have HBXn := hid (below_go (below_new Wu #[.int .i64 0] 3) hb3)
    have HBOn := hid (show Boxed xn Wu.heap.size 3 (.int .i64 0) from (hb3.block Wu.heap.size (by simp)).trans (Boxed.new Wu 3 (.int .i64 0)))
    clear hc3 hB1 hB2 ho3 hb3 HRNn
    have hltn : Wu.heap.size < xn.heap.size := HBOn.out.lt
    have HIKn := hid (show IntsK xn.heap.size Wu.heap.size xn (.slice An m cn) zs from by
      rw [← HM.out]
      refine ⟨An, cn, rfl, fun j hj => ?_⟩
      obtain ⟨b, off, hA, hb, hc⟩ := (Sl.of_own HOIn.out).num hj
      have := own_lt HOIn.out b (by rw [hA]; rfl)
      exact ⟨b, off, hA, hb, by simp at this; omega, by rw [hc]; simp [hj]⟩)
    gi_wp2_with fail
    refine wpIn_rangeFunc_ownG rfl (by omega) (gf := 17) (lb := #[.pointer (some ⟨Bsn, 0, none⟩)]) rfl trivial (enters_of Try.func17 (by kernel_rfl) rfl)
      (iter_stopsK Fence.wide (3 - 1) trivial rfl (by omega) Bsn xn.heap.size Wu.heap.size _ zs (by rw [HM.out]; omega) xn HBSn.out.2 (Nat.le_refl _) HCn.out HIKn.out) ko_t (ko_b (Nat.le_refl _)) (Below.refl _ _) (fun _ => rfl)
      (fun pre W => ((W.cell? ⟨Wu.heap.size, 0, none⟩ = some (.int .i64 (pre.length : Int)) ∧ W.frozen? ⟨Wu.heap.size, 0, none⟩ = false) ∧ pre.length ≤ lim) ∧ Below Wu.heap.size Wu W)
      (fun cd pre W => ((W.cell? ⟨Wu.heap.size, 0, none⟩ = some (.int .i64 (pre.length : Int)) ∧ W.frozen? ⟨Wu.heap.size, 0, none⟩ = false) ∧ (cd = .exit 4 ∧ pre.length = lim + 1)) ∧ Below Wu.heap.size Wu W)
      (OwnFrom.and (OwnFrom.and (Own.from (fun s A B row hs hg hr => ⟨cell_kept hs.1 hg hr, (frozen_kept hs.1 hg hr).trans hs.2⟩) _) (fun _ _ _ _ hs _ _ => hs)) (ownFrom_below (Nat.le_refl _) (by omega)))
      (fun _ => OwnFrom.and (OwnFrom.and (Own.from (fun s A B row hs hg hr => ⟨cell_kept hs.1 hg hr, (frozen_kept hs.1 hg hr).trans hs.2⟩) _) (fun _ _ _ _ hs _ _ => hs)) (ownFrom_below (Nat.le_refl _) (by omega)))
      ⟨⟨⟨HBOn.out.cell, HBOn.out.frozen⟩, Nat.zero_le _⟩, HBXn.out⟩
      ?an ?assignn ?bodyn ?donen ?stopn
    case assignn =>
      intro l x W K hK
      gi_wp2
      try simp only [List.zip_toArray, List.zip_cons_cons, List.zip_nil_right, List.foldl_toArray, List.foldl_cons, List.foldl_nil, List.setIfInBounds_toArray, List.set_cons_zero, List.set_cons_succ]
      exact hK
    case bodyn =>
      rintro l pre x W ⟨⟨⟨hc, hf⟩, hle⟩, hB⟩ hlt
      have hst0 := (HXn.out.cell (p := ⟨w.heap.size, 0, none⟩) HVST.out.lt).trans HVST.out.cell
      have hst1 := (hB.cell (p := ⟨w.heap.size, 0, none⟩) (World.block_lt_of_cell? _ _ hst0)).trans hst0
      have hne1 : w.heap.size ≠ Wu.heap.size := Nat.ne_of_lt (World.block_lt_of_cell? _ _ hst0)
      have hne2 := hne1.symm
      have hmd := HMD.out
      have hlen70 : pre.length < m := by rw [← HM.out]; exact hlt
      clear hst0
      by_cases hlim : pre.length < lim
      · have hd : ¬ ((lim : Int) < (pre.length : Int) + 1) := by omega
        gi_wp2
        exact ⟨(KeepsOthers.setCell _ _ _).from _, fun k _ hne => Below.heap_setCell _ _ _ k hne, ⟨⟨by rw [show ((pre ++ [x]).length : Int) = (pre.length : Int) + 1 by simp]; exact World.cell?_setCell_same' _ _ _ (by rw [hc]; rfl), by rw [World.frozen?_setCell]; exact hf⟩, by simp; omega⟩, hB.setCell (Nat.le_refl _) _⟩
      · have hd : ((lim : Int) < (pre.length : Int) + 1) := by omega
        gi_wp2
        exact ⟨(KeepsOthers.setCell _ _ _).from _, ⟨⟨by rw [show ((pre ++ [x]).length : Int) = (pre.length : Int) + 1 by simp]; exact World.cell?_setCell_same' _ _ _ (by rw [hc]; rfl), by rw [World.frozen?_setCell]; exact hf⟩, rfl, by simp; omega⟩, hB.setCell (Nat.le_refl _) _⟩
    case donen =>
      rintro Dn xs Wn hDn rfl ⟨⟨⟨hc, hf⟩, hle⟩, hB⟩ hK
      have hle1 : ((rl zs zs.length).length : Int) ≤ (lim : Int) + 1 := by omega
      have HNVd := hid hc
      have HW2d := hid hB
      have HXd := hid (below_go HXn.out hB)
      have HBV2d := hid (show Boxed Wn V.heap.size 22 _ from kd_go HBVu.out hB)
      have HRV2d := hid (own_below HRVu.out hB)
      have HKud := hid (kd_go HKu.out hB)
      have lt_Du_Dn : Du < Dn := by have := (Array.getElem?_eq_some_iff.1 HKu.out).1; omega
      have ge_Dn : w.heap.size ≤ Dn := by have := HVB.out.size; have := HXn.out.size; omega
      have HKd := hid hK
      have HS3d := hid (show S3 V.heap.size (.slice Aou (rl zs zs.length).length cou) Wu.heap.size (.int .i64 ((rl zs zs.length).length : Int)) w.heap.size (.int .u8 (st : Int)) Wn from ⟨HBV2d.out.cell, hc, (HXd.out.cell (p := ⟨w.heap.size, 0, none⟩) HVST.out.lt).trans HVST.out.cell⟩)
      clear hc hf hB hK
      gi_wp2_with fail
      refine wpIn_wide.2 ?_
      refine wp_region_noPanic ?_
      refine wp_region_held_drew (S := fun W => S3 V.heap.size (.slice Aou (rl zs zs.length).length cou) Wu.heap.size (.int .i64 ((rl zs zs.length).length : Int)) w.heap.size (.int .u8 (st : Int)) W) (by kernel_rfl) HS3d.out (fun hH0 => ?_)
      refine wpAnyH_take (i := 0) (v := ?_) rfl (by kernel_rfl) (by kernel_rfl) (by kernel_rfl) (fun _ _ _ h => h) (Or.inl ⟨by rfl, ?_⟩) hH0 ?_
      rotate_left
      · (intro w hSw; obtain ⟨s1, s2, s3⟩ := hSw; go_simp; try (with_reducible rfl))
      try simp only [Act.put, List.getElem_toArray, List.getElem_cons_zero, List.setIfInBounds_toArray, List.set_cons_zero, List.set_cons_succ]
      refine wpAnyH_take (i := 1) (v := ?_) rfl (by kernel_rfl) (by kernel_rfl) (by kernel_rfl) (fun _ _ _ h => h) (Or.inl ⟨by rfl, ?_⟩) hH0 ?_
      rotate_left
      · (intro w hSw; go_simp; try (with_reducible rfl))
      try simp only [Act.put, List.getElem_toArray, List.getElem_cons_zero, List.getElem_cons_succ, List.setIfInBounds_toArray, List.set_cons_zero, List.set_cons_succ]
      refine wpAnyH_ready (rs := [2]) (by kernel_rfl) (by simp) ?_
      refine AllReadyH.cons rfl (fun K hK => ?_) AllReadyH.nil
      simp only [List.getElem_toArray, List.getElem_cons_zero, List.getElem_cons_succ]
      go_simp
      refine (rrun_any R m cm zs Wn.drew HM.out (HVR.out.go HXd.out.drew) (by omega)).mono ?_
      rintro e y1d ⟨Ard, crd, rfl, hor, hbr⟩
      have HY1d := hid (undrew hbr)
      have HORd := hid hor
      have HS4d := hid (s3_go HS3d.out HY1d.out)
      clear hor hbr
      refine hK.out _ _ HS4d.out (fun hH1 => ?_)
      clear hK K hH0
      try simp only [Act.put, List.setIfInBounds_toArray, List.set_cons_zero, List.set_cons_succ]
      refine wpAnyH_ready (rs := [3]) (by kernel_rfl) (by simp) ?_
      refine AllReadyH.cons rfl (fun K hK => ?_) AllReadyH.nil
      simp only [List.getElem_toArray, List.getElem_cons_zero, List.getElem_cons_succ]
      go_simp
      refine (same_yes Aou Ard _ cou crd _ _ (rl zs zs.length) y1d rfl (Sl.of_own (own_below HRV2d.out HY1d.out)) (Sl.of_own HORd.out) (Nat.le_refl _) (Nat.le_refl _) (by have := rl_len zs zs.length; rw [HM.out] at this ⊢; omega)).mono ?_
      rintro e y2d ⟨rfl, hbr⟩
      have HY2d := hid (below_go HY1d.out hbr)
      have HS5d := hid (s3_go HS4d.out hbr)
      clear hbr
      refine hK.out _ _ HS5d.out (fun hH2 => ?_)
      clear hK K hH1
      try simp only [Act.put, List.setIfInBounds_toArray, List.set_cons_zero, List.set_cons_succ]
      have hwl : IntKind.i64.wrap (IntKind.i64.wrap (lim : Int) + 1) = (lim : Int) + 1 := by simp [IntKind.wrap, IntKind.bits, IntKind.signed]; omega
      have hite : (if (lim : Int) + 1 < ((rl zs zs.length).length : Int) then (lim : Int) + 1 else ((rl zs zs.length).length : Int)) = ((rl zs zs.length).length : Int) := by split <;> omega
      refine wpAnyH_take (i := 4) (v := ?_) rfl (by kernel_rfl) (by kernel_rfl) (by kernel_rfl) (fun _ _ _ h => h) (Or.inl ⟨by rfl, ?_⟩) hH2 ?_
      rotate_left
      · (intro w hSw; go_simp; try (with_reducible rfl))
      try simp only [Act.put, List.getElem_toArray, List.getElem_cons_zero, List.getElem_cons_succ, List.setIfInBounds_toArray, List.set_cons_zero, List.set_cons_succ]
      refine wpAnyH_take (i := 5) (v := ?_) rfl (by kernel_rfl) (by kernel_rfl) (by kernel_rfl) (fun _ _ _ h => h) (Or.inl ⟨by rfl, ?_⟩) hH2 ?_
      rotate_left
      · (intro w hSw; go_simp; try (with_reducible rfl))
      try simp only [Act.put, List.getElem_toArray, List.getElem_cons_zero, List.getElem_cons_succ, List.setIfInBounds_toArray, List.set_cons_zero, List.set_cons_succ]
      refine wpAnyH_take (i := 6) (v := ?_) rfl (by kernel_rfl) (by kernel_rfl) (by kernel_rfl) (fun _ _ _ h => h) (Or.inl ⟨by rfl, ?_⟩) hH2 ?_
      rotate_left
      · (intro w hSw; obtain ⟨s1, s2, s3⟩ := hSw; go_simp; try (with_reducible rfl))
      try simp only [Act.put, List.getElem_toArray, List.getElem_cons_zero, List.getElem_cons_succ, List.setIfInBounds_toArray, List.set_cons_zero, List.set_cons_succ]
      refine wpAnyH_take (i := 7) (v := ?_) rfl (by kernel_rfl) (by kernel_rfl) (by kernel_rfl) (fun _ _ _ h => h) (Or.inl ⟨by rfl, ?_⟩) hH2 ?_
      rotate_left
      · (intro w hSw; obtain ⟨s1, s2, s3⟩ := hSw; go_simp; try (with_reducible rfl))
      try simp only [Act.put, List.getElem_toArray, List.getElem_cons_zero, List.getElem_cons_succ, List.setIfInBounds_toArray, List.set_cons_zero, List.set_cons_succ]
      refine wpAnyH_take (i := 8) (v := ?_) rfl (by kernel_rfl) (by kernel_rfl) (by kernel_rfl) (fun _ _ _ h => h) (Or.inl ⟨by rfl, ?_⟩) hH2 ?_
      rotate_left
      · (intro w hSw; go_simp; try (with_reducible rfl))
      try simp only [Act.put, List.getElem_toArray, List.getElem_cons_zero, List.getElem_cons_succ, List.setIfInBounds_toArray, List.set_cons_zero, List.set_cons_succ]
      refine wpAnyH_take (i := 9) (v := ?_) rfl (by kernel_rfl) (by kernel_rfl) (by kernel_rfl) (fun _ _ _ h => h) (Or.inl ⟨by rfl, ?_⟩) hH2 ?_
      rotate_left
      · (intro w hSw; obtain ⟨s1, s2, s3⟩ := hSw; go_simp; try (with_reducible rfl))
      try simp only [Act.put, List.getElem_toArray, List.getElem_cons_zero, List.getElem_cons_succ, List.setIfInBounds_toArray, List.set_cons_zero, List.set_cons_succ]
      refine wpAnyH_take (i := 10) (v := ?_) rfl (by kernel_rfl) (by kernel_rfl) (by kernel_rfl) (fun _ _ _ h => h) (Or.inl ⟨by rfl, ?_⟩) hH2 ?_
      rotate_left
      · (intro w hSw; have hmd := HMD.out; go_simp; try (with_reducible rfl))
      try simp only [Act.put, List.getElem_toArray, List.getElem_cons_zero, List.getElem_cons_succ, List.setIfInBounds_toArray, List.set_cons_zero, List.set_cons_succ]
      refine wpAnyH_take (i := 11) (v := ?_) rfl (by kernel_rfl) (by kernel_rfl) (by kernel_rfl) (fun _ _ _ h => h) (Or.inl ⟨by rfl, ?_⟩) hH2 ?_
      rotate_left
      · (intro w hSw; go_simp; try (with_reducible rfl))
      try simp only [Act.put, List.getElem_toArray, List.getElem_cons_zero, List.getElem_cons_succ, List.setIfInBounds_toArray, List.set_cons_zero, List.set_cons_succ]
      refine wpAnyH_take (i := 12) (v := ?_) rfl (by kernel_rfl) (by kernel_rfl) (by kernel_rfl) (fun _ _ _ h => h) (Or.inl ⟨by rfl, ?_⟩) hH2 ?_
      rotate_left
      · (intro w hSw; go_simp; try (with_reducible rfl))
      try simp only [Act.put, List.getElem_toArray, List.getElem_cons_zero, List.getElem_cons_succ, List.setIfInBounds_toArray, List.set_cons_zero, List.set_cons_succ]
      refine wpAnyH_take (i := 13) (v := ?_) rfl (by kernel_rfl) (by kernel_rfl) (by kernel_rfl) (fun _ _ _ h => h) (Or.inl ⟨by rfl, ?_⟩) hH2 ?_
      rotate_left
      · (intro w hSw; go_simp; try (with_reducible rfl))
      try simp only [Act.put, List.getElem_toArray, List.getElem_cons_zero, List.getElem_cons_succ, List.setIfInBounds_toArray, List.set_cons_zero, List.set_cons_succ]
      refine wpAnyH_take (i := 14) (v := ?_) rfl (by kernel_rfl) (by kernel_rfl) (by kernel_rfl) (fun _ _ _ h => h) (Or.inl ⟨by rfl, ?_⟩) hH2 ?_
      rotate_left
      · (intro w hSw; go_simp; try (with_reducible rfl))
      try simp only [Act.put, List.getElem_toArray, List.getElem_cons_zero, List.getElem_cons_succ, List.setIfInBounds_toArray, List.set_cons_zero, List.set_cons_succ]
      refine wpAnyH_take (i := 15) (v := ?_) rfl (by kernel_rfl) (by kernel_rfl) (by kernel_rfl) (fun _ _ _ h => h) (Or.inl ⟨by rfl, ?_⟩) hH2 ?_
      rotate_left
      · (intro w hSw; go_simp; try (with_reducible rfl))
      try simp only [Act.put, List.getElem_toArray, List.getElem_cons_zero, List.getElem_cons_succ, List.setIfInBounds_toArray, List.set_cons_zero, List.set_cons_succ]
      clear hwl hite
      refine wpAnyH_done (by kernel_rfl) ?_ _
      refine NoPanic.normal ?_
      gi_wp2_with fail
      have HKdy := hid (kd_go HKd.out HY2d.out)
      have HKudy := hid (kd_go HKud.out HY2d.out)
      have HXdu := hid (below_go HXd.out HY2d.out)
      rw [roundsIn_succ]
      have hcsd := (HXdu.out.cell (p := ⟨w2.heap.size, 1, none⟩) (by rw [HVS.out]; simp)).trans HVC1.out
      have HRNdu := hid (runnable_any A2 k0 c2 ys (y2d.alloc (.cells #[.slice none 0 0] 22)) HK.out.symm (HVY.out.go (below_go HXdu.out (below_new y2d #[.slice none 0 0] 22))) (by omega))
      gi_wp2_with fail
      refine ⟨trivial, callsIn_wide.2 (HRNdu.out.mono ?_)⟩
      rintro e xdu ⟨Bsdu, Adu, cdu, rfl, hc3, hB1, hB2, ho3, hb3⟩
      have HCdu := hid hc3
      have HBSdu := hid (And.intro hB1 hB2)
      have HOIdu := hid ho3
      have HBXdu := hid (below_go (below_new y2d #[.slice none 0 0] 22) hb3)
      have HBOdu := hid (show Boxed xdu y2d.heap.size 22 (.slice none 0 0) from (hb3.block y2d.heap.size (by simp)).trans (Boxed.new y2d 22 (.slice none 0 0)))
      clear hc3 hB1 hB2 ho3 hb3 HRNdu
      have hltdu : y2d.heap.size < xdu.heap.size := HBOdu.out.lt
      have HIKdu := hid (show IntsK xdu.heap.size y2d.heap.size xdu (.slice Adu k0 cdu) ys from by
        rw [← HK.out.symm]
        refine ⟨Adu, cdu, rfl, fun j hj => ?_⟩
        obtain ⟨b, off, hA, hb, hc⟩ := (Sl.of_own HOIdu.out).num hj
        have := own_lt HOIdu.out b (by rw [hA]; rfl)
        exact ⟨b, off, hA, hb, by simp at this; omega, by rw [hc]; simp [hj]⟩)
      gi_wp2_with fail
      refine wpIn_rangeFunc_ownG rfl (by omega) (gf := 17) (lb := #[.pointer (some ⟨Bsdu, 0, none⟩)]) rfl trivial (enters_of Try.func17 (by kernel_rfl) rfl)
        (iter_stopsK Fence.wide (3 - 1) trivial rfl (by omega) Bsdu xdu.heap.size y2d.heap.size _ ys (by rw [HK.out.symm]; omega) xdu HBSdu.out.2 (Nat.le_refl _) HCdu.out HIKdu.out) ko_t (ko_b (Nat.le_refl _)) (Below.refl _ _) (fun _ => rfl)
        (fun pre W => (∃ v, Boxed W y2d.heap.size 22 v ∧ W.ownsRow xdu.heap.size 3 1 v pre.length (pre.map (Value.int .i64)) ∧ True) ∧ (Below y2d.heap.size y2d W ∧ xdu.heap.size ≤ W.heap.size))
        (fun _ _ _ => False)
        (OwnFrom.and (Own.from (holdsRow_own xdu.heap.size y2d.heap.size 22 3 1 (fun pre : List Int => pre.length) (fun pre : List Int => pre.map (Value.int .i64)) (fun _ _ => True)) _) (OwnFrom.and (ownFrom_below (Nat.le_refl _) (by omega)) (fun _ _ _ _ hs hg _ => Nat.le_trans hs hg.size)))
        (fun _ _ _ _ _ hs _ _ => hs)
        ⟨⟨_, HBOdu.out, World.ownsRow_nil _ _ _ _, trivial⟩, ⟨HBXdu.out, Nat.le_refl _⟩⟩
        ?adu ?assigndu ?bodydu ?donedu ?stopdu
      case assigndu =>
        intro l x W K hK
        gi_wp2
        try simp only [List.zip_toArray, List.zip_cons_cons, List.zip_nil_right, List.foldl_toArray, List.foldl_cons, List.foldl_nil, List.setIfInBounds_toArray, List.set_cons_zero, List.set_cons_succ]
        exact hK
      case bodydu =>
        rintro l pre x W ⟨⟨v, hv, hrow, _⟩, hB, hxW⟩ hlt
        have hc := hv.cell
        have hlen70 : pre.length < k0 := by rw [← HK.out.symm]; exact hlt
        gi_wp2_with (gi_at_builtin; refine wpListIn_append_own _ rfl _ _ 22 rfl xdu.heap.size 3 i0 (.int .i64 0) 1 8 Try.underlying22 hi hz0 hz1 hz2 rfl (by decide) _ _ _ rfl (hrow.alloc _) ⟨W.heap.size, 0, none⟩ 1 1 [.int .i64 x] rfl rfl (cell_one_new _ _ _) (by simp [Value.oneCell']) (by unfold maxLen; omega) (by omega) (by simp; omega) ?_; intro v' w9 hown' hgrow _; obtain ⟨g', cap', rfl⟩ := ownsRow_succ hown'; obtain ⟨⟨hv1, hv2⟩, hr2, hk2, hb2, hko⟩ := appendedK hv (by decide) hrow hxW hltdu hown' hgrow; have hc1 := hv1.cell; have hf1 := hv1.frozen)
        exact ⟨hk2.from _, hko, ⟨_, hv2, by simpa using hr2, trivial⟩, hB.trans hb2, Nat.le_trans hxW hb2.size⟩
      case stopdu =>
        rintro D c pre W _ _ h _
        exact h.elim
      case donedu =>
        rintro Ddu xs Wdu hDdu rfl ⟨⟨v, hv, hrow, _⟩, hB, hxW⟩ hK
        obtain ⟨Aodu, codu, rfl, _, _⟩ := own_form hrow
        have HBVdu := hid hv
        have HRVdu := hid hrow
        have HWdu := hid hB
        have HXdn := hid (below_go HXdu.out hB)
        have HKdydu := hid (kd_go HKdy.out hB)
        have lt_Dn_Ddu : Dn < Ddu := by have := (Array.getElem?_eq_some_iff.1 HKdy.out).1; omega
        have HKudydu := hid (kd_go HKudy.out hB)
        have lt_Du_Ddu : Du < Ddu := by have := (Array.getElem?_eq_some_iff.1 HKudy.out).1; omega
        have ge_Ddu : w.heap.size ≤ Ddu := by have := HVB.out.size; have := HXdu.out.size; omega
        have HKdu := hid hK
        clear hv hrow hB hK hxW
        have HRNdn := hid (runnable_any A2 k0 c2 ys (Wdu.alloc (.cells #[.int .i64 0] 3)) HK.out.symm (HVY.out.go (below_go HXdn.out (below_new Wdu #[.int .i64 0] 3))) (by omega))
        gi_wp2_with fail
        refine ⟨trivial, callsIn_wide.2 (HRNdn.out.mono ?_)⟩
        rintro e xdn ⟨Bsdn, Adn, cdn, rfl, hc3, hB1, hB2, ho3, hb3⟩
        have HCdn := hid hc3
        have HBSdn := hid (And.intro hB1 hB2)
        have HOIdn := hid ho3
        have HBXdn := hid (below_go (below_new Wdu #[.int .i64 0] 3) hb3)
        have HBOdn := hid (show Boxed xdn Wdu.heap.size 3 (.int .i64 0) from (hb3.block Wdu.heap.size (by simp)).trans (Boxed.new Wdu 3 (.int .i64 0)))
        clear hc3 hB1 hB2 ho3 hb3 HRNdn
        have hltdn : Wdu.heap.size < xdn.heap.size := HBOdn.out.lt
        have HIKdn := hid (show IntsK xdn.heap.size Wdu.heap.size xdn (.slice Adn k0 cdn) ys from by
          rw [← HK.out.symm]
          refine ⟨Adn, cdn, rfl, fun j hj => ?_⟩
          obtain ⟨b, off, hA, hb, hc⟩ := (Sl.of_own HOIdn.out).num hj
          have := own_lt HOIdn.out b (by rw [hA]; rfl)
          exact ⟨b, off, hA, hb, by simp at this; omega, by rw [hc]; simp [hj]⟩)
        gi_wp2_with fail
        refine wpIn_rangeFunc_ownG rfl (by omega) (gf := 17) (lb := #[.pointer (some ⟨Bsdn, 0, none⟩)]) rfl trivial (enters_of Try.func17 (by kernel_rfl) rfl)
          (iter_stopsK Fence.wide (3 - 1) trivial rfl (by omega) Bsdn xdn.heap.size Wdu.heap.size _ ys (by rw [HK.out.symm]; omega) xdn HBSdn.out.2 (Nat.le_refl _) HCdn.out HIKdn.out) ko_t (ko_b (Nat.le_refl _)) (Below.refl _ _) (fun _ => rfl)
          (fun pre W => ((W.cell? ⟨Wdu.heap.size, 0, none⟩ = some (.int .i64 (pre.length : Int)) ∧ W.frozen? ⟨Wdu.heap.size, 0, none⟩ = false) ∧ pre.length ≤ lim) ∧ Below Wdu.heap.size Wdu W)
          (fun cd pre W => ((W.cell? ⟨Wdu.heap.size, 0, none⟩ = some (.int .i64 (pre.length : Int)) ∧ W.frozen? ⟨Wdu.heap.size, 0, none⟩ = false) ∧ (cd = .exit 4 ∧ pre.length = lim + 1)) ∧ Below Wdu.heap.size Wdu W)
          (OwnFrom.and (OwnFrom.and (Own.from (fun s A B row hs hg hr => ⟨cell_kept hs.1 hg hr, (frozen_kept hs.1 hg hr).trans hs.2⟩) _) (fun _ _ _ _ hs _ _ => hs)) (ownFrom_below (Nat.le_refl _) (by omega)))
          (fun _ => OwnFrom.and (OwnFrom.and (Own.from (fun s A B row hs hg hr => ⟨cell_kept hs.1 hg hr, (frozen_kept hs.1 hg hr).trans hs.2⟩) _) (fun _ _ _ _ hs _ _ => hs)) (ownFrom_below (Nat.le_refl _) (by omega)))
          ⟨⟨⟨HBOdn.out.cell, HBOdn.out.frozen⟩, Nat.zero_le _⟩, HBXdn.out⟩
          ?adn ?assigndn ?bodydn ?donedn ?stopdn
        case assigndn =>
          intro l x W K hK
          gi_wp2
          try simp only [List.zip_toArray, List.zip_cons_cons, List.zip_nil_right, List.foldl_toArray, List.foldl_cons, List.foldl_nil, List.setIfInBounds_toArray, List.set_cons_zero, List.set_cons_succ]
          exact hK
        case bodydn =>
          rintro l pre x W ⟨⟨⟨hc, hf⟩, hle⟩, hB⟩ hlt
          have hst0 := (HXdn.out.cell (p := ⟨w.heap.size, 0, none⟩) HVST.out.lt).trans HVST.out.cell
          have hst1 := (hB.cell (p := ⟨w.heap.size, 0, none⟩) (World.block_lt_of_cell? _ _ hst0)).trans hst0
          have hne1 : w.heap.size ≠ Wdu.heap.size := Nat.ne_of_lt (World.block_lt_of_cell? _ _ hst0)
          have hne2 := hne1.symm
          have hmd := HMD.out
          have hlen70 : pre.length < k0 := by rw [← HK.out.symm]; exact hlt
          clear hst0
          by_cases hlim : pre.length < lim
          · have hd : ¬ ((lim : Int) < (pre.length : Int) + 1) := by omega
            gi_wp2
            exact ⟨(KeepsOthers.setCell _ _ _).from _, fun k _ hne => Below.heap_setCell _ _ _ k hne, ⟨⟨by rw [show ((pre ++ [x]).length : Int) = (pre.length : Int) + 1 by simp]; exact World.cell?_setCell_same' _ _ _ (by rw [hc]; rfl), by rw [World.frozen?_setCell]; exact hf⟩, by simp; omega⟩, hB.setCell (Nat.le_refl _) _⟩
          · have hd : ((lim : Int) < (pre.length : Int) + 1) := by omega
            gi_wp2
            exact ⟨(KeepsOthers.setCell _ _ _).from _, ⟨⟨by rw [show ((pre ++ [x]).length : Int) = (pre.length : Int) + 1 by simp]; exact World.cell?_setCell_same' _ _ _ (by rw [hc]; rfl), by rw [World.frozen?_setCell]; exact hf⟩, rfl, by simp; omega⟩, hB.setCell (Nat.le_refl _) _⟩
        case donedn =>
          rintro Ddn xs Wdn hDdn rfl ⟨⟨⟨hc, hf⟩, hle⟩, hB⟩ hK
          have hle1 : ((rl ys ys.length).length : Int) ≤ (lim : Int) + 1 := by omega
          have HNVdd := hid hc
          have HW2dd := hid hB
          have HXdd := hid (below_go HXdn.out hB)
          have HBV2dd := hid (show Boxed Wdn y2d.heap.size 22 _ from kd_go HBVdu.out hB)
          have HRV2dd := hid (own_below HRVdu.out hB)
          have HKdudd := hid (kd_go HKdu.out hB)
          have lt_Ddu_Ddn : Ddu < Ddn := by have := (Array.getElem?_eq_some_iff.1 HKdu.out).1; omega
          have HKdydudd := hid (kd_go HKdydu.out hB)
          have lt_Dn_Ddn : Dn < Ddn := by have := (Array.getElem?_eq_some_iff.1 HKdydu.out).1; omega
          have HKudydudd := hid (kd_go HKudydu.out hB)
          have lt_Du_Ddn : Du < Ddn := by have := (Array.getElem?_eq_some_iff.1 HKudydu.out).1; omega
          have ge_Ddn : w.heap.size ≤ Ddn := by have := HVB.out.size; have := HXdn.out.size; omega
          have HKdd := hid hK
          have HS3dd := hid (show S3 y2d.heap.size (.slice Aodu (rl ys ys.length).length codu) Wdu.heap.size (.int .i64 ((rl ys ys.length).length : Int)) w.heap.size (.int .u8 (st : Int)) Wdn from ⟨HBV2dd.out.cell, hc, (HXdd.out.cell (p := ⟨w.heap.size, 0, none⟩) HVST.out.lt).trans HVST.out.cell⟩)
          clear hc hf hB hK
          gi_wp2_with fail
          refine wpIn_wide.2 ?_
          refine wp_region_noPanic ?_
          refine wp_region_held_drew (S := fun W => S3 y2d.heap.size (.slice Aodu (rl ys ys.length).length codu) Wdu.heap.size (.int .i64 ((rl ys ys.length).length : Int)) w.heap.size (.int .u8 (st : Int)) W) (by kernel_rfl) HS3dd.out (fun hH0 => ?_)
          refine wpAnyH_take (i := 0) (v := ?_) rfl (by kernel_rfl) (by kernel_rfl) (by kernel_rfl) (fun _ _ _ h => h) (Or.inl ⟨by rfl, ?_⟩) hH0 ?_
          rotate_left
          · (intro w hSw; obtain ⟨s1, s2, s3⟩ := hSw; go_simp; try (with_reducible rfl))
          try simp only [Act.put, List.getElem_toArray, List.getElem_cons_zero, List.setIfInBounds_toArray, List.set_cons_zero, List.set_cons_succ]
          refine wpAnyH_take (i := 1) (v := ?_) rfl (by kernel_rfl) (by kernel_rfl) (by kernel_rfl) (fun _ _ _ h => h) (Or.inl ⟨by rfl, ?_⟩) hH0 ?_
          rotate_left
          · (intro w hSw; go_simp; try (with_reducible rfl))
          try simp only [Act.put, List.getElem_toArray, List.getElem_cons_zero, List.getElem_cons_succ, List.setIfInBounds_toArray, List.set_cons_zero, List.set_cons_succ]
          refine wpAnyH_ready (rs := [2]) (by kernel_rfl) (by simp) ?_
          refine AllReadyH.cons rfl (fun K hK => ?_) AllReadyH.nil
          simp only [List.getElem_toArray, List.getElem_cons_zero, List.getElem_cons_succ]
          go_simp
          refine (rrun_any A2 k0 c2 ys Wdn.drew HK.out.symm (HVY.out.go HXdd.out.drew) (by omega)).mono ?_
          rintro e y1dd ⟨Ardd, crdd, rfl, hor, hbr⟩
          have HY1dd := hid (undrew hbr)
          have HORdd := hid hor
          have HS4dd := hid (s3_go HS3dd.out HY1dd.out)
          clear hor hbr
          refine hK.out _ _ HS4dd.out (fun hH1 => ?_)
          clear hK K hH0
          try simp only [Act.put, List.setIfInBounds_toArray, List.set_cons_zero, List.set_cons_succ]
          refine wpAnyH_ready (rs := [3]) (by kernel_rfl) (by simp) ?_
          refine AllReadyH.cons rfl (fun K hK => ?_) AllReadyH.nil
          simp only [List.getElem_toArray, List.getElem_cons_zero, List.getElem_cons_succ]
          go_simp
          refine (same_yes Aodu Ardd _ codu crdd _ _ (rl ys ys.length) y1dd rfl (Sl.of_own (own_below HRV2dd.out HY1dd.out)) (Sl.of_own HORdd.out) (Nat.le_refl _) (Nat.le_refl _) (by have := rl_len ys ys.length; rw [HK.out.symm] at this ⊢; omega)).mono ?_
          rintro e y2dd ⟨rfl, hbr⟩
          have HY2dd := hid (below_go HY1dd.out hbr)
          have HS5dd := hid (s3_go HS4dd.out hbr)
          clear hbr
          refine hK.out _ _ HS5dd.out (fun hH2 => ?_)
          clear hK K hH1
          try simp only [Act.put, List.setIfInBounds_toArray, List.set_cons_zero, List.set_cons_succ]
          have hwl : IntKind.i64.wrap (IntKind.i64.wrap (lim : Int) + 1) = (lim : Int) + 1 := by simp [IntKind.wrap, IntKind.bits, IntKind.signed]; omega
          have hite : (if (lim : Int) + 1 < ((rl ys ys.length).length : Int) then (lim : Int) + 1 else ((rl ys ys.length).length : Int)) = ((rl ys ys.length).length : Int) := by split <;> omega
          refine wpAnyH_take (i := 4) (v := ?_) rfl (by kernel_rfl) (by kernel_rfl) (by kernel_rfl) (fun _ _ _ h => h) (Or.inl ⟨by rfl, ?_⟩) hH2 ?_
          rotate_left
          · (intro w hSw; go_simp; try (with_reducible rfl))
          try simp only [Act.put, List.getElem_toArray, List.getElem_cons_zero, List.getElem_cons_succ, List.setIfInBounds_toArray, List.set_cons_zero, List.set_cons_succ]
          refine wpAnyH_take (i := 5) (v := ?_) rfl (by kernel_rfl) (by kernel_rfl) (by kernel_rfl) (fun _ _ _ h => h) (Or.inl ⟨by rfl, ?_⟩) hH2 ?_
          rotate_left
          · (intro w hSw; go_simp; try (with_reducible rfl))
          try simp only [Act.put, List.getElem_toArray, List.getElem_cons_zero, List.getElem_cons_succ, List.setIfInBounds_toArray, List.set_cons_zero, List.set_cons_succ]
          refine wpAnyH_take (i := 6) (v := ?_) rfl (by kernel_rfl) (by kernel_rfl) (by kernel_rfl) (fun _ _ _ h => h) (Or.inl ⟨by rfl, ?_⟩) hH2 ?_
          rotate_left
          · (intro w hSw; obtain ⟨s1, s2, s3⟩ := hSw; go_simp; try (with_reducible rfl))
          try simp only [Act.put, List.getElem_toArray, List.getElem_cons_zero, List.getElem_cons_succ, List.setIfInBounds_toArray, List.set_cons_zero, List.set_cons_succ]
          refine wpAnyH_take (i := 7) (v := ?_) rfl (by kernel_rfl) (by kernel_rfl) (by kernel_rfl) (fun _ _ _ h => h) (Or.inl ⟨by rfl, ?_⟩) hH2 ?_
          rotate_left
          · (intro w hSw; obtain ⟨s1, s2, s3⟩ := hSw; go_simp; try (with_reducible rfl))
          try simp only [Act.put, List.getElem_toArray, List.getElem_cons_zero, List.getElem_cons_succ, List.setIfInBounds_toArray, List.set_cons_zero, List.set_cons_succ]
          refine wpAnyH_take (i := 8) (v := ?_) rfl (by kernel_rfl) (by kernel_rfl) (by kernel_rfl) (fun _ _ _ h => h) (Or.inl ⟨by rfl, ?_⟩) hH2 ?_
          rotate_left
          · (intro w hSw; go_simp; try (with_reducible rfl))
          try simp only [Act.put, List.getElem_toArray, List.getElem_cons_zero, List.getElem_cons_succ, List.setIfInBounds_toArray, List.set_cons_zero, List.set_cons_succ]
          refine wpAnyH_take (i := 9) (v := ?_) rfl (by kernel_rfl) (by kernel_rfl) (by kernel_rfl) (fun _ _ _ h => h) (Or.inl ⟨by rfl, ?_⟩) hH2 ?_
          rotate_left
          · (intro w hSw; obtain ⟨s1, s2, s3⟩ := hSw; go_simp; try (with_reducible rfl))
          try simp only [Act.put, List.getElem_toArray, List.getElem_cons_zero, List.getElem_cons_succ, List.setIfInBounds_toArray, List.set_cons_zero, List.set_cons_succ]
          refine wpAnyH_take (i := 10) (v := ?_) rfl (by kernel_rfl) (by kernel_rfl) (by kernel_rfl) (fun _ _ _ h => h) (Or.inl ⟨by rfl, ?_⟩) hH2 ?_
          rotate_left
          · (intro w hSw; have hmd := HMD.out; go_simp; try (with_reducible rfl))
          try simp only [Act.put, List.getElem_toArray, List.getElem_cons_zero, List.getElem_cons_succ, List.setIfInBounds_toArray, List.set_cons_zero, List.set_cons_succ]
          refine wpAnyH_take (i := 11) (v := ?_) rfl (by kernel_rfl) (by kernel_rfl) (by kernel_rfl) (fun _ _ _ h => h) (Or.inl ⟨by rfl, ?_⟩) hH2 ?_
          rotate_left
          · (intro w hSw; go_simp; try (with_reducible rfl))
          try simp only [Act.put, List.getElem_toArray, List.getElem_cons_zero, List.getElem_cons_succ, List.setIfInBounds_toArray, List.set_cons_zero, List.set_cons_succ]
          refine wpAnyH_take (i := 12) (v := ?_) rfl (by kernel_rfl) (by kernel_rfl) (by kernel_rfl) (fun _ _ _ h => h) (Or.inl ⟨by rfl, ?_⟩) hH2 ?_
          rotate_left
          · (intro w hSw; go_simp; try (with_reducible rfl))
          try simp only [Act.put, List.getElem_toArray, List.getElem_cons_zero, List.getElem_cons_succ, List.setIfInBounds_toArray, List.set_cons_zero, List.set_cons_succ]
          refine wpAnyH_take (i := 13) (v := ?_) rfl (by kernel_rfl) (by kernel_rfl) (by kernel_rfl) (fun _ _ _ h => h) (Or.inl ⟨by rfl, ?_⟩) hH2 ?_
          rotate_left
          · (intro w hSw; go_simp; try (with_reducible rfl))
          try simp only [Act.put, List.getElem_toArray, List.getElem_cons_zero, List.getElem_cons_succ, List.setIfInBounds_toArray, List.set_cons_zero, List.set_cons_succ]
          refine wpAnyH_take (i := 14) (v := ?_) rfl (by kernel_rfl) (by kernel_rfl) (by kernel_rfl) (fun _ _ _ h => h) (Or.inl ⟨by rfl, ?_⟩) hH2 ?_
          rotate_left
          · (intro w hSw; go_simp; try (with_reducible rfl))
          try simp only [Act.put, List.getElem_toArray, List.getElem_cons_zero, List.getElem_cons_succ, List.setIfInBounds_toArray, List.set_cons_zero, List.set_cons_succ]
          refine wpAnyH_take (i := 15) (v := ?_) rfl (by kernel_rfl) (by kernel_rfl) (by kernel_rfl) (fun _ _ _ h => h) (Or.inl ⟨by rfl, ?_⟩) hH2 ?_
          rotate_left
          · (intro w hSw; go_simp; try (with_reducible rfl))
          try simp only [Act.put, List.getElem_toArray, List.getElem_cons_zero, List.getElem_cons_succ, List.setIfInBounds_toArray, List.set_cons_zero, List.set_cons_succ]
          clear hwl hite
          refine wpAnyH_done (by kernel_rfl) ?_ _
          refine NoPanic.normal ?_
          gi_wp2_with fail
          have HKddy := hid (kd_go HKdd.out HY2dd.out)
          have HKduddy := hid (kd_go HKdudd.out HY2dd.out)
          have HKdyduddy := hid (kd_go HKdydudd.out HY2dd.out)
          have HKudyduddy := hid (kd_go HKudydudd.out HY2dd.out)
          rw [roundsIn_succ]
          gi_wp2_with fail
          refine ⟨trivial, callsIn_wide.2 ((awake_any _).mono ?_)⟩
          rintro e wF ⟨rfl, hbF⟩
          have HBF := below_go HVB.out (below_go HXdd.out (below_go HY2dd.out hbF))
          have kd0 := kd_go HKddy.out hbF
          have kd1 := kd_go HKduddy.out hbF
          have kd2 := kd_go HKdyduddy.out hbF
          have kd3 := kd_go HKudyduddy.out hbF
          gi_wp2_with fail
          refine ⟨by simp, .inl ⟨_, _, rfl, run_takeDeferred kd0, ⟨by simp, .inl ⟨_, _, rfl, run_takeDeferred (kd_put kd1 lt_Ddu_Ddn), ⟨by simp, .inl ⟨_, _, rfl, run_takeDeferred (kd_put (kd_put kd2 lt_Dn_Ddn) lt_Dn_Ddu), ⟨by simp, .inl ⟨_, _, rfl, run_takeDeferred (kd_put (kd_put (kd_put kd3 lt_Du_Ddn) lt_Du_Ddu) lt_Du_Dn), ?_⟩⟩⟩⟩⟩⟩⟩⟩
          exact ⟨_, results_tmp rfl _ _ _, rfl, (bel_put (bel_put (bel_put (bel_put HBF ge_Ddn kd0) ge_Ddu (kd_put kd1 lt_Ddu_Ddn)) ge_Dn (kd_put (kd_put kd2 lt_Dn_Ddn) lt_Dn_Ddu)) ge_Du (kd_put (kd_put (kd_put kd3 lt_Du_Ddn) lt_Du_Ddu) lt_Du_Dn))⟩
        case stopdn =>
          rintro Ddn cd pre Wdn hDdn hSp ⟨⟨⟨hc, hf⟩, rfl, hpl⟩, hB⟩ hK
          obtain ⟨kk, hkk, hpre⟩ := hSp
          have hle2 : lim + 1 ≤ (rl ys ys.length).length := by have := rl_mono ys _ _ hkk; rw [← hpre, hpl] at this; exact this
          have hle1 : (lim : Int) + 1 ≤ ((rl ys ys.length).length : Int) := by omega
          rw [hpl] at hc
          clear hpre hkk kk
          have HNVds := hid hc
          have HW2ds := hid hB
          have HXds := hid (below_go HXdn.out hB)
          have HBV2ds := hid (show Boxed Wdn y2d.heap.size 22 _ from kd_go HBVdu.out hB)
          have HRV2ds := hid (own_below HRVdu.out hB)
          have HKduds := hid (kd_go HKdu.out hB)
          have lt_Ddu_Ddn : Ddu < Ddn := by have := (Array.getElem?_eq_some_iff.1 HKdu.out).1; omega
          have HKdyduds := hid (kd_go HKdydu.out hB)
          have lt_Dn_Ddn : Dn < Ddn := by have := (Array.getElem?_eq_some_iff.1 HKdydu.out).1; omega
          have HKudyduds := hid (kd_go HKudydu.out hB)
          have lt_Du_Ddn : Du < Ddn := by have := (Array.getElem?_eq_some_iff.1 HKudydu.out).1; omega
          have ge_Ddn : w.heap.size ≤ Ddn := by have := HVB.out.size; have := HXdn.out.size; omega
          have HKds := hid hK
          have HS3ds := hid (show S3 y2d.heap.size (.slice Aodu (rl ys ys.length).length codu) Wdu.heap.size (.int .i64 ((lim + 1 : Nat) : Int)) w.heap.size (.int .u8 (st : Int)) Wdn from ⟨HBV2ds.out.cell, hc, (HXds.out.cell (p := ⟨w.heap.size, 0, none⟩) HVST.out.lt).trans HVST.out.cell⟩)
          clear hc hf hB hK
          gi_wp2_with fail
          refine wpIn_wide.2 ?_
          refine wp_region_noPanic ?_
          refine wp_region_held_drew (S := fun W => S3 y2d.heap.size (.slice Aodu (rl ys ys.length).length codu) Wdu.heap.size (.int .i64 ((lim + 1 : Nat) : Int)) w.heap.size (.int .u8 (st : Int)) W) (by kernel_rfl) HS3ds.out (fun hH0 => ?_)
          refine wpAnyH_take (i := 0) (v := ?_) rfl (by kernel_rfl) (by kernel_rfl) (by kernel_rfl) (fun _ _ _ h => h) (Or.inl ⟨by rfl, ?_⟩) hH0 ?_
          rotate_left
          · (intro w hSw; obtain ⟨s1, s2, s3⟩ := hSw; go_simp; try (with_reducible rfl))
          try simp only [Act.put, List.getElem_toArray, List.getElem_cons_zero, List.setIfInBounds_toArray, List.set_cons_zero, List.set_cons_succ]
          refine wpAnyH_take (i := 1) (v := ?_) rfl (by kernel_rfl) (by kernel_rfl) (by kernel_rfl) (fun _ _ _ h => h) (Or.inl ⟨by rfl, ?_⟩) hH0 ?_
          rotate_left
          · (intro w hSw; go_simp; try (with_reducible rfl))
          try simp only [Act.put, List.getElem_toArray, List.getElem_cons_zero, List.getElem_cons_succ, List.setIfInBounds_toArray, List.set_cons_zero, List.set_cons_succ]
          refine wpAnyH_ready (rs := [2]) (by kernel_rfl) (by simp) ?_
          refine AllReadyH.cons rfl (fun K hK => ?_) AllReadyH.nil
          simp only [List.getElem_toArray, List.getElem_cons_zero, List.getElem_cons_succ]
          go_simp
          refine (rrun_any A2 k0 c2 ys Wdn.drew HK.out.symm (HVY.out.go HXds.out.drew) (by omega)).mono ?_
          rintro e y1ds ⟨Ards, crds, rfl, hor, hbr⟩
          have HY1ds := hid (undrew hbr)
          have HORds := hid hor
          have HS4ds := hid (s3_go HS3ds.out HY1ds.out)
          clear hor hbr
          refine hK.out _ _ HS4ds.out (fun hH1 => ?_)
          clear hK K hH0
          try simp only [Act.put, List.setIfInBounds_toArray, List.set_cons_zero, List.set_cons_succ]
          refine wpAnyH_ready (rs := [3]) (by kernel_rfl) (by simp) ?_
          refine AllReadyH.cons rfl (fun K hK => ?_) AllReadyH.nil
          simp only [List.getElem_toArray, List.getElem_cons_zero, List.getElem_cons_succ]
          go_simp
          refine (same_yes Aodu Ards _ codu crds _ _ (rl ys ys.length) y1ds rfl (Sl.of_own (own_below HRV2ds.out HY1ds.out)) (Sl.of_own HORds.out) (Nat.le_refl _) (Nat.le_refl _) (by have := rl_len ys ys.length; rw [HK.out.symm] at this ⊢; omega)).mono ?_
          rintro e y2ds ⟨rfl, hbr⟩
          have HY2ds := hid (below_go HY1ds.out hbr)
          have HS5ds := hid (s3_go HS4ds.out hbr)
          clear hbr
          refine hK.out _ _ HS5ds.out (fun hH2 => ?_)
          clear hK K hH1
          try simp only [Act.put, List.setIfInBounds_toArray, List.set_cons_zero, List.set_cons_succ]
          have hwl : IntKind.i64.wrap (IntKind.i64.wrap (lim : Int) + 1) = (lim : Int) + 1 := by simp [IntKind.wrap, IntKind.bits, IntKind.signed]; omega
          have hite : (if (lim : Int) + 1 < ((rl ys ys.length).length : Int) then (lim : Int) + 1 else ((rl ys ys.length).length : Int)) = (lim : Int) + 1 := by split <;> omega
          refine wpAnyH_take (i := 4) (v := ?_) rfl (by kernel_rfl) (by kernel_rfl) (by kernel_rfl) (fun _ _ _ h => h) (Or.inl ⟨by rfl, ?_⟩) hH2 ?_
          rotate_left
          · (intro w hSw; go_simp; try (with_reducible rfl))
          try simp only [Act.put, List.getElem_toArray, List.getElem_cons_zero, List.getElem_cons_succ, List.setIfInBounds_toArray, List.set_cons_zero, List.set_cons_succ]
          refine wpAnyH_take (i := 5) (v := ?_) rfl (by kernel_rfl) (by kernel_rfl) (by kernel_rfl) (fun _ _ _ h => h) (Or.inl ⟨by rfl, ?_⟩) hH2 ?_
          rotate_left
          · (intro w hSw; go_simp; try (with_reducible rfl))
          try simp only [Act.put, List.getElem_toArray, List.getElem_cons_zero, List.getElem_cons_succ, List.setIfInBounds_toArray, List.set_cons_zero, List.set_cons_succ]
          refine wpAnyH_take (i := 6) (v := ?_) rfl (by kernel_rfl) (by kernel_rfl) (by kernel_rfl) (fun _ _ _ h => h) (Or.inl ⟨by rfl, ?_⟩) hH2 ?_
          rotate_left
          · (intro w hSw; obtain ⟨s1, s2, s3⟩ := hSw; go_simp; try (with_reducible rfl))
          try simp only [Act.put, List.getElem_toArray, List.getElem_cons_zero, List.getElem_cons_succ, List.setIfInBounds_toArray, List.set_cons_zero, List.set_cons_succ]
          refine wpAnyH_take (i := 7) (v := ?_) rfl (by kernel_rfl) (by kernel_rfl) (by kernel_rfl) (fun _ _ _ h => h) (Or.inl ⟨by rfl, ?_⟩) hH2 ?_
          rotate_left
          · (intro w hSw; obtain ⟨s1, s2, s3⟩ := hSw; go_simp; try (with_reducible rfl))
          try simp only [Act.put, List.getElem_toArray, List.getElem_cons_zero, List.getElem_cons_succ, List.setIfInBounds_toArray, List.set_cons_zero, List.set_cons_succ]
          refine wpAnyH_take (i := 8) (v := ?_) rfl (by kernel_rfl) (by kernel_rfl) (by kernel_rfl) (fun _ _ _ h => h) (Or.inl ⟨by rfl, ?_⟩) hH2 ?_
          rotate_left
          · (intro w hSw; go_simp; try (with_reducible rfl))
          try simp only [Act.put, List.getElem_toArray, List.getElem_cons_zero, List.getElem_cons_succ, List.setIfInBounds_toArray, List.set_cons_zero, List.set_cons_succ]
          refine wpAnyH_take (i := 9) (v := ?_) rfl (by kernel_rfl) (by kernel_rfl) (by kernel_rfl) (fun _ _ _ h => h) (Or.inl ⟨by rfl, ?_⟩) hH2 ?_
          rotate_left
          · (intro w hSw; obtain ⟨s1, s2, s3⟩ := hSw; go_simp; try (with_reducible rfl))
          try simp only [Act.put, List.getElem_toArray, List.getElem_cons_zero, List.getElem_cons_succ, List.setIfInBounds_toArray, List.set_cons_zero, List.set_cons_succ]
          refine wpAnyH_take (i := 10) (v := ?_) rfl (by kernel_rfl) (by kernel_rfl) (by kernel_rfl) (fun _ _ _ h => h) (Or.inl ⟨by rfl, ?_⟩) hH2 ?_
          rotate_left
          · (intro w hSw; have hmd := HMD.out; go_simp; try (with_reducible rfl))
          try simp only [Act.put, List.getElem_toArray, List.getElem_cons_zero, List.getElem_cons_succ, List.setIfInBounds_toArray, List.set_cons_zero, List.set_cons_succ]
          refine wpAnyH_take (i := 11) (v := ?_) rfl (by kernel_rfl) (by kernel_rfl) (by kernel_rfl) (fun _ _ _ h => h) (Or.inl ⟨by rfl, ?_⟩) hH2 ?_
          rotate_left
          · (intro w hSw; go_simp; try (with_reducible rfl))
          try simp only [Act.put, List.getElem_toArray, List.getElem_cons_zero, List.getElem_cons_succ, List.setIfInBounds_toArray, List.set_cons_zero, List.set_cons_succ]
          refine wpAnyH_take (i := 12) (v := ?_) rfl (by kernel_rfl) (by kernel_rfl) (by kernel_rfl) (fun _ _ _ h => h) (Or.inl ⟨by rfl, ?_⟩) hH2 ?_
          rotate_left
          · (intro w hSw; go_simp; try (with_reducible rfl))
          try simp only [Act.put, List.getElem_toArray, List.getElem_cons_zero, List.getElem_cons_succ, List.setIfInBounds_toArray, List.set_cons_zero, List.set_cons_succ]
          refine wpAnyH_take (i := 13) (v := ?_) rfl (by kernel_rfl) (by kernel_rfl) (by kernel_rfl) (fun _ _ _ h => h) (Or.inl ⟨by rfl, ?_⟩) hH2 ?_
          rotate_left
          · (intro w hSw; go_simp; try (with_reducible rfl))
          try simp only [Act.put, List.getElem_toArray, List.getElem_cons_zero, List.getElem_cons_succ, List.setIfInBounds_toArray, List.set_cons_zero, List.set_cons_succ]
          refine wpAnyH_take (i := 14) (v := ?_) rfl (by kernel_rfl) (by kernel_rfl) (by kernel_rfl) (fun _ _ _ h => h) (Or.inl ⟨by rfl, ?_⟩) hH2 ?_
          rotate_left
          · (intro w hSw; go_simp; try (with_reducible rfl))
          try simp only [Act.put, List.getElem_toArray, List.getElem_cons_zero, List.getElem_cons_succ, List.setIfInBounds_toArray, List.set_cons_zero, List.set_cons_succ]
          refine wpAnyH_take (i := 15) (v := ?_) rfl (by kernel_rfl) (by kernel_rfl) (by kernel_rfl) (fun _ _ _ h => h) (Or.inl ⟨by rfl, ?_⟩) hH2 ?_
          rotate_left
          · (intro w hSw; go_simp; try (with_reducible rfl))
          try simp only [Act.put, List.getElem_toArray, List.getElem_cons_zero, List.getElem_cons_succ, List.setIfInBounds_toArray, List.set_cons_zero, List.set_cons_succ]
          clear hwl hite
          refine wpAnyH_done (by kernel_rfl) ?_ _
          refine NoPanic.normal ?_
          gi_wp2_with fail
          have HKdsy := hid (kd_go HKds.out HY2ds.out)
          have HKdudsy := hid (kd_go HKduds.out HY2ds.out)
          have HKdydudsy := hid (kd_go HKdyduds.out HY2ds.out)
          have HKudydudsy := hid (kd_go HKudyduds.out HY2ds.out)
          rw [roundsIn_succ]
          gi_wp2_with fail
          refine ⟨trivial, callsIn_wide.2 ((awake_any _).mono ?_)⟩
          rintro e wF ⟨rfl, hbF⟩
          have HBF := below_go HVB.out (below_go HXds.out (below_go HY2ds.out hbF))
          have kd0 := kd_go HKdsy.out hbF
          have kd1 := kd_go HKdudsy.out hbF
          have kd2 := kd_go HKdydudsy.out hbF
          have kd3 := kd_go HKudydudsy.out hbF
          gi_wp2_with fail
          refine ⟨by simp, .inl ⟨_, _, rfl, run_takeDeferred kd0, ⟨by simp, .inl ⟨_, _, rfl, run_takeDeferred (kd_put kd1 lt_Ddu_Ddn), ⟨by simp, .inl ⟨_, _, rfl, run_takeDeferred (kd_put (kd_put kd2 lt_Dn_Ddn) lt_Dn_Ddu), ⟨by simp, .inl ⟨_, _, rfl, run_takeDeferred (kd_put (kd_put (kd_put kd3 lt_Du_Ddn) lt_Du_Ddu) lt_Du_Dn), ?_⟩⟩⟩⟩⟩⟩⟩⟩
          exact ⟨_, results_tmp rfl _ _ _, rfl, (bel_put (bel_put (bel_put (bel_put HBF ge_Ddn kd0) ge_Ddu (kd_put kd1 lt_Ddu_Ddn)) ge_Dn (kd_put (kd_put kd2 lt_Dn_Ddn) lt_Dn_Ddu)) ge_Du (kd_put (kd_put (kd_put kd3 lt_Du_Ddn) lt_Du_Ddu) lt_Du_Dn))⟩
    case stopn =>
      rintro Dn cd pre Wn hDn hSp ⟨⟨⟨hc, hf⟩, rfl, hpl⟩, hB⟩ hK
      obtain ⟨kk, hkk, hpre⟩ := hSp
      have hle2 : lim + 1 ≤ (rl zs zs.length).length := by have := rl_mono zs _ _ hkk; rw [← hpre, hpl] at this; exact this
      have hle1 : (lim : Int) + 1 ≤ ((rl zs zs.length).length : Int) := by omega
      rw [hpl] at hc
      clear hpre hkk kk
      have HNVs := hid hc
      have HW2s := hid hB
      have HXs := hid (below_go HXn.out hB)
      have HBV2s := hid (show Boxed Wn V.heap.size 22 _ from kd_go HBVu.out hB)
      have HRV2s := hid (own_below HRVu.out hB)
      have HKus := hid (kd_go HKu.out hB)
      have lt_Du_Dn : Du < Dn := by have := (Array.getElem?_eq_some_iff.1 HKu.out).1; omega
      have ge_Dn : w.heap.size ≤ Dn := by have := HVB.out.size; have := HXn.out.size; omega
      have HKs := hid hK
      have HS3s := hid (show S3 V.heap.size (.slice Aou (rl zs zs.length).length cou) Wu.heap.size (.int .i64 ((lim + 1 : Nat) : Int)) w.heap.size (.int .u8 (st : Int)) Wn from ⟨HBV2s.out.cell, hc, (HXs.out.cell (p := ⟨w.heap.size, 0, none⟩) HVST.out.lt).trans HVST.out.cell⟩)
      clear hc hf hB hK
      gi_wp2_with fail
      refine wpIn_wide.2 ?_
      refine wp_region_noPanic ?_
      refine wp_region_held_drew (S := fun W => S3 V.heap.size (.slice Aou (rl zs zs.length).length cou) Wu.heap.size (.int .i64 ((lim + 1 : Nat) : Int)) w.heap.size (.int .u8 (st : Int)) W) (by kernel_rfl) HS3s.out (fun hH0 => ?_)
      refine wpAnyH_take (i := 0) (v := ?_) rfl (by kernel_rfl) (by kernel_rfl) (by kernel_rfl) (fun _ _ _ h => h) (Or.inl ⟨by rfl, ?_⟩) hH0 ?_
      rotate_left
      · (intro w hSw; obtain ⟨s1, s2, s3⟩ := hSw; go_simp; try (with_reducible rfl))
      try simp only [Act.put, List.getElem_toArray, List.getElem_cons_zero, List.setIfInBounds_toArray, List.set_cons_zero, List.set_cons_succ]
      refine wpAnyH_take (i := 1) (v := ?_) rfl (by kernel_rfl) (by kernel_rfl) (by kernel_rfl) (fun _ _ _ h => h) (Or.inl ⟨by rfl, ?_⟩) hH0 ?_
      rotate_left
      · (intro w hSw; go_simp; try (with_reducible rfl))
      try simp only [Act.put, List.getElem_toArray, List.getElem_cons_zero, List.getElem_cons_succ, List.setIfInBounds_toArray, List.set_cons_zero, List.set_cons_succ]
      refine wpAnyH_ready (rs := [2]) (by kernel_rfl) (by simp) ?_
      refine AllReadyH.cons rfl (fun K hK => ?_) AllReadyH.nil
      simp only [List.getElem_toArray, List.getElem_cons_zero, List.getElem_cons_succ]
      go_simp
      refine (rrun_any R m cm zs Wn.drew HM.out (HVR.out.go HXs.out.drew) (by omega)).mono ?_
      rintro e y1s ⟨Ars, crs, rfl, hor, hbr⟩
      have HY1s := hid (undrew hbr)
      have HORs := hid hor
      have HS4s := hid (s3_go HS3s.out HY1s.out)
      clear hor hbr
      refine hK.out _ _ HS4s.out (fun hH1 => ?_)
      clear hK K hH0
      try simp only [Act.put, List.setIfInBounds_toArray, List.set_cons_zero, List.set_cons_succ]
      refine wpAnyH_ready (rs := [3]) (by kernel_rfl) (by simp) ?_
      refine AllReadyH.cons rfl (fun K hK => ?_) AllReadyH.nil
      simp only [List.getElem_toArray, List.getElem_cons_zero, List.getElem_cons_succ]
      go_simp
      refine (same_yes Aou Ars _ cou crs _ _ (rl zs zs.length) y1s rfl (Sl.of_own (own_below HRV2s.out HY1s.out)) (Sl.of_own HORs.out) (Nat.le_refl _) (Nat.le_refl _) (by have := rl_len zs zs.length; rw [HM.out] at this ⊢; omega)).mono ?_
      rintro e y2s ⟨rfl, hbr⟩
      have HY2s := hid (below_go HY1s.out hbr)
      have HS5s := hid (s3_go HS4s.out hbr)
      clear hbr
      refine hK.out _ _ HS5s.out (fun hH2 => ?_)
      clear hK K hH1
      try simp only [Act.put, List.setIfInBounds_toArray, List.set_cons_zero, List.set_cons_succ]
      have hwl : IntKind.i64.wrap (IntKind.i64.wrap (lim : Int) + 1) = (lim : Int) + 1 := by simp [IntKind.wrap, IntKind.bits, IntKind.signed]; omega
      have hite : (if (lim : Int) + 1 < ((rl zs zs.length).length : Int) then (lim : Int) + 1 else ((rl zs zs.length).length : Int)) = (lim : Int) + 1 := by split <;> omega
      refine wpAnyH_take (i := 4) (v := ?_) rfl (by kernel_rfl) (by kernel_rfl) (by kernel_rfl) (fun _ _ _ h => h) (Or.inl ⟨by rfl, ?_⟩) hH2 ?_
      rotate_left
      · (intro w hSw; go_simp; try (with_reducible rfl))
      try simp only [Act.put, List.getElem_toArray, List.getElem_cons_zero, List.getElem_cons_succ, List.setIfInBounds_toArray, List.set_cons_zero, List.set_cons_succ]
      refine wpAnyH_take (i := 5) (v := ?_) rfl (by kernel_rfl) (by kernel_rfl) (by kernel_rfl) (fun _ _ _ h => h) (Or.inl ⟨by rfl, ?_⟩) hH2 ?_
      rotate_left
      · (intro w hSw; go_simp; try (with_reducible rfl))
      try simp only [Act.put, List.getElem_toArray, List.getElem_cons_zero, List.getElem_cons_succ, List.setIfInBounds_toArray, List.set_cons_zero, List.set_cons_succ]
      refine wpAnyH_take (i := 6) (v := ?_) rfl (by kernel_rfl) (by kernel_rfl) (by kernel_rfl) (fun _ _ _ h => h) (Or.inl ⟨by rfl, ?_⟩) hH2 ?_
      rotate_left
      · (intro w hSw; obtain ⟨s1, s2, s3⟩ := hSw; go_simp; try (with_reducible rfl))
      try simp only [Act.put, List.getElem_toArray, List.getElem_cons_zero, List.getElem_cons_succ, List.setIfInBounds_toArray, List.set_cons_zero, List.set_cons_succ]
      refine wpAnyH_take (i := 7) (v := ?_) rfl (by kernel_rfl) (by kernel_rfl) (by kernel_rfl) (fun _ _ _ h => h) (Or.inl ⟨by rfl, ?_⟩) hH2 ?_
      rotate_left
      · (intro w hSw; obtain ⟨s1, s2, s3⟩ := hSw; go_simp; try (with_reducible rfl))
      try simp only [Act.put, List.getElem_toArray, List.getElem_cons_zero, List.getElem_cons_succ, List.setIfInBounds_toArray, List.set_cons_zero, List.set_cons_succ]
      refine wpAnyH_take (i := 8) (v := ?_) rfl (by kernel_rfl) (by kernel_rfl) (by kernel_rfl) (fun _ _ _ h => h) (Or.inl ⟨by rfl, ?_⟩) hH2 ?_
      rotate_left
      · (intro w hSw; go_simp; try (with_reducible rfl))
      try simp only [Act.put, List.getElem_toArray, List.getElem_cons_zero, List.getElem_cons_succ, List.setIfInBounds_toArray, List.set_cons_zero, List.set_cons_succ]
      refine wpAnyH_take (i := 9) (v := ?_) rfl (by kernel_rfl) (by kernel_rfl) (by kernel_rfl) (fun _ _ _ h => h) (Or.inl ⟨by rfl, ?_⟩) hH2 ?_
      rotate_left
      · (intro w hSw; obtain ⟨s1, s2, s3⟩ := hSw; go_simp; try (with_reducible rfl))
      try simp only [Act.put, List.getElem_toArray, List.getElem_cons_zero, List.getElem_cons_succ, List.setIfInBounds_toArray, List.set_cons_zero, List.set_cons_succ]
      refine wpAnyH_take (i := 10) (v := ?_) rfl (by kernel_rfl) (by kernel_rfl) (by kernel_rfl) (fun _ _ _ h => h) (Or.inl ⟨by rfl, ?_⟩) hH2 ?_
      rotate_left
      · (intro w hSw; have hmd := HMD.out; go_simp; try (with_reducible rfl))
      try simp only [Act.put, List.getElem_toArray, List.getElem_cons_zero, List.getElem_cons_succ, List.setIfInBounds_toArray, List.set_cons_zero, List.set_cons_succ]
      refine wpAnyH_take (i := 11) (v := ?_) rfl (by kernel_rfl) (by kernel_rfl) (by kernel_rfl) (fun _ _ _ h => h) (Or.inl ⟨by rfl, ?_⟩) hH2 ?_
      rotate_left
      · (intro w hSw; go_simp; try (with_reducible rfl))
      try simp only [Act.put, List.getElem_toArray, List.getElem_cons_zero, List.getElem_cons_succ, List.setIfInBounds_toArray, List.set_cons_zero, List.set_cons_succ]
      refine wpAnyH_take (i := 12) (v := ?_) rfl (by kernel_rfl) (by kernel_rfl) (by kernel_rfl) (fun _ _ _ h => h) (Or.inl ⟨by rfl, ?_⟩) hH2 ?_
      rotate_left
      · (intro w hSw; go_simp; try (with_reducible rfl))
      try simp only [Act.put, List.getElem_toArray, List.getElem_cons_zero, List.getElem_cons_succ, List.setIfInBounds_toArray, List.set_cons_zero, List.set_cons_succ]
      refine wpAnyH_take (i := 13) (v := ?_) rfl (by kernel_rfl) (by kernel_rfl) (by kernel_rfl) (fun _ _ _ h => h) (Or.inl ⟨by rfl, ?_⟩) hH2 ?_
      rotate_left
      · (intro w hSw; go_simp; try (with_reducible rfl))
      try simp only [Act.put, List.getElem_toArray, List.getElem_cons_zero, List.getElem_cons_succ, List.setIfInBounds_toArray, List.set_cons_zero, List.set_cons_succ]
      refine wpAnyH_take (i := 14) (v := ?_) rfl (by kernel_rfl) (by kernel_rfl) (by kernel_rfl) (fun _ _ _ h => h) (Or.inl ⟨by rfl, ?_⟩) hH2 ?_
      rotate_left
      · (intro w hSw; go_simp; try (with_reducible rfl))
      try simp only [Act.put, List.getElem_toArray, List.getElem_cons_zero, List.getElem_cons_succ, List.setIfInBounds_toArray, List.set_cons_zero, List.set_cons_succ]
      refine wpAnyH_take (i := 15) (v := ?_) rfl (by kernel_rfl) (by kernel_rfl) (by kernel_rfl) (fun _ _ _ h => h) (Or.inl ⟨by rfl, ?_⟩) hH2 ?_
      rotate_left
      · (intro w hSw; go_simp; try (with_reducible rfl))
      try simp only [Act.put, List.getElem_toArray, List.getElem_cons_zero, List.getElem_cons_succ, List.setIfInBounds_toArray, List.set_cons_zero, List.set_cons_succ]
      clear hwl hite
      refine wpAnyH_done (by kernel_rfl) ?_ _
      refine NoPanic.normal ?_
      gi_wp2_with fail
      have HKsy := hid (kd_go HKs.out HY2s.out)
      have HKusy := hid (kd_go HKus.out HY2s.out)
      have HXsu := hid (below_go HXs.out HY2s.out)
      rw [roundsIn_succ]
      have hcss := (HXsu.out.cell (p := ⟨w2.heap.size, 1, none⟩) (by rw [HVS.out]; simp)).trans HVC1.out
      have HRNsu := hid (runnable_any A2 k0 c2 ys (y2s.alloc (.cells #[.slice none 0 0] 22)) HK.out.symm (HVY.out.go (below_go HXsu.out (below_new y2s #[.slice none 0 0] 22))) (by omega))
      gi_wp2_with fail
      refine ⟨trivial, callsIn_wide.2 (HRNsu.out.mono ?_)⟩
      rintro e xsu ⟨Bssu, Asu, csu, rfl, hc3, hB1, hB2, ho3, hb3⟩
      have HCsu := hid hc3
      have HBSsu := hid (And.intro hB1 hB2)
      have HOIsu := hid ho3
      have HBXsu := hid (below_go (below_new y2s #[.slice none 0 0] 22) hb3)
      have HBOsu := hid (show Boxed xsu y2s.heap.size 22 (.slice none 0 0) from (hb3.block y2s.heap.size (by simp)).trans (Boxed.new y2s 22 (.slice none 0 0)))
      clear hc3 hB1 hB2 ho3 hb3 HRNsu
      have hltsu : y2s.heap.size < xsu.heap.size := HBOsu.out.lt
      have HIKsu := hid (show IntsK xsu.heap.size y2s.heap.size xsu (.slice Asu k0 csu) ys from by
        rw [← HK.out.symm]
        refine ⟨Asu, csu, rfl, fun j hj => ?_⟩
        obtain ⟨b, off, hA, hb, hc⟩ := (Sl.of_own HOIsu.out).num hj
        have := own_lt HOIsu.out b (by rw [hA]; rfl)
        exact ⟨b, off, hA, hb, by simp at this; omega, by rw [hc]; simp [hj]⟩)
      gi_wp2_with fail
      refine wpIn_rangeFunc_ownG rfl (by omega) (gf := 17) (lb := #[.pointer (some ⟨Bssu, 0, none⟩)]) rfl trivial (enters_of Try.func17 (by kernel_rfl) rfl)
        (iter_stopsK Fence.wide (3 - 1) trivial rfl (by omega) Bssu xsu.heap.size y2s.heap.size _ ys (by rw [HK.out.symm]; omega) xsu HBSsu.out.2 (Nat.le_refl _) HCsu.out HIKsu.out) ko_t (ko_b (Nat.le_refl _)) (Below.refl _ _) (fun _ => rfl)
        (fun pre W => (∃ v, Boxed W y2s.heap.size 22 v ∧ W.ownsRow xsu.heap.size 3 1 v pre.length (pre.map (Value.int .i64)) ∧ True) ∧ (Below y2s.heap.size y2s W ∧ xsu.heap.size ≤ W.heap.size))
        (fun _ _ _ => False)
        (OwnFrom.and (Own.from (holdsRow_own xsu.heap.size y2s.heap.size 22 3 1 (fun pre : List Int => pre.length) (fun pre : List Int => pre.map (Value.int .i64)) (fun _ _ => True)) _) (OwnFrom.and (ownFrom_below (Nat.le_refl _) (by omega)) (fun _ _ _ _ hs hg _ => Nat.le_trans hs hg.size)))
        (fun _ _ _ _ _ hs _ _ => hs)
        ⟨⟨_, HBOsu.out, World.ownsRow_nil _ _ _ _, trivial⟩, ⟨HBXsu.out, Nat.le_refl _⟩⟩
        ?asu ?assignsu ?bodysu ?donesu ?stopsu
      case assignsu =>
        intro l x W K hK
        gi_wp2
        try simp only [List.zip_toArray, List.zip_cons_cons, List.zip_nil_right, List.foldl_toArray, List.foldl_cons, List.foldl_nil, List.setIfInBounds_toArray, List.set_cons_zero, List.set_cons_succ]
        exact hK
      case bodysu =>
        rintro l pre x W ⟨⟨v, hv, hrow, _⟩, hB, hxW⟩ hlt
        have hc := hv.cell
        have hlen70 : pre.length < k0 := by rw [← HK.out.symm]; exact hlt
        gi_wp2_with (gi_at_builtin; refine wpListIn_append_own _ rfl _ _ 22 rfl xsu.heap.size 3 i0 (.int .i64 0) 1 8 Try.underlying22 hi hz0 hz1 hz2 rfl (by decide) _ _ _ rfl (hrow.alloc _) ⟨W.heap.size, 0, none⟩ 1 1 [.int .i64 x] rfl rfl (cell_one_new _ _ _) (by simp [Value.oneCell']) (by unfold maxLen; omega) (by omega) (by simp; omega) ?_; intro v' w9 hown' hgrow _; obtain ⟨g', cap', rfl⟩ := ownsRow_succ hown'; obtain ⟨⟨hv1, hv2⟩, hr2, hk2, hb2, hko⟩ := appendedK hv (by decide) hrow hxW hltsu hown' hgrow; have hc1 := hv1.cell; have hf1 := hv1.frozen)
        exact ⟨hk2.from _, hko, ⟨_, hv2, by simpa using hr2, trivial⟩, hB.trans hb2, Nat.le_trans hxW hb2.size⟩
      case stopsu =>
        rintro D c pre W _ _ h _
        exact h.elim
      case donesu =>
        rintro Dsu xs Wsu hDsu rfl ⟨⟨v, hv, hrow, _⟩, hB, hxW⟩ hK
        obtain ⟨Aosu, cosu, rfl, _, _⟩ := own_form hrow
        have HBVsu := hid hv
        have HRVsu := hid hrow
        have HWsu := hid hB
        have HXsn := hid (below_go HXsu.out hB)
        have HKsysu := hid (kd_go HKsy.out hB)
        have lt_Dn_Dsu : Dn < Dsu := by have := (Array.getElem?_eq_some_iff.1 HKsy.out).1; omega
        have HKusysu := hid (kd_go HKusy.out hB)
        have lt_Du_Dsu : Du < Dsu := by have := (Array.getElem?_eq_some_iff.1 HKusy.out).1; omega
        have ge_Dsu : w.heap.size ≤ Dsu := by have := HVB.out.size; have := HXsu.out.size; omega
        have HKsu := hid hK
        clear hv hrow hB hK hxW
        have HRNsn := hid (runnable_any A2 k0 c2 ys (Wsu.alloc (.cells #[.int .i64 0] 3)) HK.out.symm (HVY.out.go (below_go HXsn.out (below_new Wsu #[.int .i64 0] 3))) (by omega))
        gi_wp2_with fail
        refine ⟨trivial, callsIn_wide.2 (HRNsn.out.mono ?_)⟩
        rintro e xsn ⟨Bssn, Asn, csn, rfl, hc3, hB1, hB2, ho3, hb3⟩
        have HCsn := hid hc3
        have HBSsn := hid (And.intro hB1 hB2)
        have HOIsn := hid ho3
        have HBXsn := hid (below_go (below_new Wsu #[.int .i64 0] 3) hb3)
        have HBOsn := hid (show Boxed xsn Wsu.heap.size 3 (.int .i64 0) from (hb3.block Wsu.heap.size (by simp)).trans (Boxed.new Wsu 3 (.int .i64 0)))
        clear hc3 hB1 hB2 ho3 hb3 HRNsn
        have hltsn : Wsu.heap.size < xsn.heap.size := HBOsn.out.lt
        have HIKsn := hid (show IntsK xsn.heap.size Wsu.heap.size xsn (.slice Asn k0 csn) ys from by
          rw [← HK.out.symm]
          refine ⟨Asn, csn, rfl, fun j hj => ?_⟩
          obtain ⟨b, off, hA, hb, hc⟩ := (Sl.of_own HOIsn.out).num hj
          have := own_lt HOIsn.out b (by rw [hA]; rfl)
          exact ⟨b, off, hA, hb, by simp at this; omega, by rw [hc]; simp [hj]⟩)
        gi_wp2_with fail
        refine wpIn_rangeFunc_ownG rfl (by omega) (gf := 17) (lb := #[.pointer (some ⟨Bssn, 0, none⟩)]) rfl trivial (enters_of Try.func17 (by kernel_rfl) rfl)
          (iter_stopsK Fence.wide (3 - 1) trivial rfl (by omega) Bssn xsn.heap.size Wsu.heap.size _ ys (by rw [HK.out.symm]; omega) xsn HBSsn.out.2 (Nat.le_refl _) HCsn.out HIKsn.out) ko_t (ko_b (Nat.le_refl _)) (Below.refl _ _) (fun _ => rfl)
          (fun pre W => ((W.cell? ⟨Wsu.heap.size, 0, none⟩ = some (.int .i64 (pre.length : Int)) ∧ W.frozen? ⟨Wsu.heap.size, 0, none⟩ = false) ∧ pre.length ≤ lim) ∧ Below Wsu.heap.size Wsu W)
          (fun cd pre W => ((W.cell? ⟨Wsu.heap.size, 0, none⟩ = some (.int .i64 (pre.length : Int)) ∧ W.frozen? ⟨Wsu.heap.size, 0, none⟩ = false) ∧ (cd = .exit 4 ∧ pre.length = lim + 1)) ∧ Below Wsu.heap.size Wsu W)
          (OwnFrom.and (OwnFrom.and (Own.from (fun s A B row hs hg hr => ⟨cell_kept hs.1 hg hr, (frozen_kept hs.1 hg hr).trans hs.2⟩) _) (fun _ _ _ _ hs _ _ => hs)) (ownFrom_below (Nat.le_refl _) (by omega)))
          (fun _ => OwnFrom.and (OwnFrom.and (Own.from (fun s A B row hs hg hr => ⟨cell_kept hs.1 hg hr, (frozen_kept hs.1 hg hr).trans hs.2⟩) _) (fun _ _ _ _ hs _ _ => hs)) (ownFrom_below (Nat.le_refl _) (by omega)))
          ⟨⟨⟨HBOsn.out.cell, HBOsn.out.frozen⟩, Nat.zero_le _⟩, HBXsn.out⟩
          ?asn ?assignsn ?bodysn ?donesn ?stopsn
        case assignsn =>
          intro l x W K hK
          gi_wp2
          try simp only [List.zip_toArray, List.zip_cons_cons, List.zip_nil_right, List.foldl_toArray, List.foldl_cons, List.foldl_nil, List.setIfInBounds_toArray, List.set_cons_zero, List.set_cons_succ]
          exact hK
        case bodysn =>
          rintro l pre x W ⟨⟨⟨hc, hf⟩, hle⟩, hB⟩ hlt
          have hst0 := (HXsn.out.cell (p := ⟨w.heap.size, 0, none⟩) HVST.out.lt).trans HVST.out.cell
          have hst1 := (hB.cell (p := ⟨w.heap.size, 0, none⟩) (World.block_lt_of_cell? _ _ hst0)).trans hst0
          have hne1 : w.heap.size ≠ Wsu.heap.size := Nat.ne_of_lt (World.block_lt_of_cell? _ _ hst0)
          have hne2 := hne1.symm
          have hmd := HMD.out
          have hlen70 : pre.length < k0 := by rw [← HK.out.symm]; exact hlt
          clear hst0
          by_cases hlim : pre.length < lim
          · have hd : ¬ ((lim : Int) < (pre.length : Int) + 1) := by omega
            gi_wp2
            exact ⟨(KeepsOthers.setCell _ _ _).from _, fun k _ hne => Below.heap_setCell _ _ _ k hne, ⟨⟨by rw [show ((pre ++ [x]).length : Int) = (pre.length : Int) + 1 by simp]; exact World.cell?_setCell_same' _ _ _ (by rw [hc]; rfl), by rw [World.frozen?_setCell]; exact hf⟩, by simp; omega⟩, hB.setCell (Nat.le_refl _) _⟩
          · have hd : ((lim : Int) < (pre.length : Int) + 1) := by omega
            gi_wp2
            exact ⟨(KeepsOthers.setCell _ _ _).from _, ⟨⟨by rw [show ((pre ++ [x]).length : Int) = (pre.length : Int) + 1 by simp]; exact World.cell?_setCell_same' _ _ _ (by rw [hc]; rfl), by rw [World.frozen?_setCell]; exact hf⟩, rfl, by simp; omega⟩, hB.setCell (Nat.le_refl _) _⟩
        case donesn =>
          rintro Dsn xs Wsn hDsn rfl ⟨⟨⟨hc, hf⟩, hle⟩, hB⟩ hK
          have hle1 : ((rl ys ys.length).length : Int) ≤ (lim : Int) + 1 := by omega
          have HNVsd := hid hc
          have HW2sd := hid hB
          have HXsd := hid (below_go HXsn.out hB)
          have HBV2sd := hid (show Boxed Wsn y2s.heap.size 22 _ from kd_go HBVsu.out hB)
          have HRV2sd := hid (own_below HRVsu.out hB)
          have HKsusd := hid (kd_go HKsu.out hB)
          have lt_Dsu_Dsn : Dsu < Dsn := by have := (Array.getElem?_eq_some_iff.1 HKsu.out).1; omega
          have HKsysusd := hid (kd_go HKsysu.out hB)
          have lt_Dn_Dsn : Dn < Dsn := by have := (Array.getElem?_eq_some_iff.1 HKsysu.out).1; omega
          have HKusysusd := hid (kd_go HKusysu.out hB)
          have lt_Du_Dsn : Du < Dsn := by have := (Array.getElem?_eq_some_iff.1 HKusysu.out).1; omega
          have ge_Dsn : w.heap.size ≤ Dsn := by have := HVB.out.size; have := HXsn.out.size; omega
          have HKsd := hid hK
          have HS3sd := hid (show S3 y2s.heap.size (.slice Aosu (rl ys ys.length).length cosu) Wsu.heap.size (.int .i64 ((rl ys ys.length).length : Int)) w.heap.size (.int .u8 (st : Int)) Wsn from ⟨HBV2sd.out.cell, hc, (HXsd.out.cell (p := ⟨w.heap.size, 0, none⟩) HVST.out.lt).trans HVST.out.cell⟩)
          clear hc hf hB hK
          gi_wp2_with fail
          refine wpIn_wide.2 ?_
          refine wp_region_noPanic ?_
          refine wp_region_held_drew (S := fun W => S3 y2s.heap.size (.slice Aosu (rl ys ys.length).length cosu) Wsu.heap.size (.int .i64 ((rl ys ys.length).length : Int)) w.heap.size (.int .u8 (st : Int)) W) (by kernel_rfl) HS3sd.out (fun hH0 => ?_)
          refine wpAnyH_take (i := 0) (v := ?_) rfl (by kernel_rfl) (by kernel_rfl) (by kernel_rfl) (fun _ _ _ h => h) (Or.inl ⟨by rfl, ?_⟩) hH0 ?_
          rotate_left
          · (intro w hSw; obtain ⟨s1, s2, s3⟩ := hSw; go_simp; try (with_reducible rfl))
          try simp only [Act.put, List.getElem_toArray, List.getElem_cons_zero, List.setIfInBounds_toArray, List.set_cons_zero, List.set_cons_succ]
          refine wpAnyH_take (i := 1) (v := ?_) rfl (by kernel_rfl) (by kernel_rfl) (by kernel_rfl) (fun _ _ _ h => h) (Or.inl ⟨by rfl, ?_⟩) hH0 ?_
          rotate_left
          · (intro w hSw; go_simp; try (with_reducible rfl))
          try simp only [Act.put, List.getElem_toArray, List.getElem_cons_zero, List.getElem_cons_succ, List.setIfInBounds_toArray, List.set_cons_zero, List.set_cons_succ]
          refine wpAnyH_ready (rs := [2]) (by kernel_rfl) (by simp) ?_
          refine AllReadyH.cons rfl (fun K hK => ?_) AllReadyH.nil
          simp only [List.getElem_toArray, List.getElem_cons_zero, List.getElem_cons_succ]
          go_simp
          refine (rrun_any A2 k0 c2 ys Wsn.drew HK.out.symm (HVY.out.go HXsd.out.drew) (by omega)).mono ?_
          rintro e y1sd ⟨Arsd, crsd, rfl, hor, hbr⟩
          have HY1sd := hid (undrew hbr)
          have HORsd := hid hor
          have HS4sd := hid (s3_go HS3sd.out HY1sd.out)
          clear hor hbr
          refine hK.out _ _ HS4sd.out (fun hH1 => ?_)
          clear hK K hH0
          try simp only [Act.put, List.setIfInBounds_toArray, List.set_cons_zero, List.set_cons_succ]
          refine wpAnyH_ready (rs := [3]) (by kernel_rfl) (by simp) ?_
          refine AllReadyH.cons rfl (fun K hK => ?_) AllReadyH.nil
          simp only [List.getElem_toArray, List.getElem_cons_zero, List.getElem_cons_succ]
          go_simp
          refine (same_yes Aosu Arsd _ cosu crsd _ _ (rl ys ys.length) y1sd rfl (Sl.of_own (own_below HRV2sd.out HY1sd.out)) (Sl.of_own HORsd.out) (Nat.le_refl _) (Nat.le_refl _) (by have := rl_len ys ys.length; rw [HK.out.symm] at this ⊢; omega)).mono ?_
          rintro e y2sd ⟨rfl, hbr⟩
          have HY2sd := hid (below_go HY1sd.out hbr)
          have HS5sd := hid (s3_go HS4sd.out hbr)
          clear hbr
          refine hK.out _ _ HS5sd.out (fun hH2 => ?_)
          clear hK K hH1
          try simp only [Act.put, List.setIfInBounds_toArray, List.set_cons_zero, List.set_cons_succ]
          have hwl : IntKind.i64.wrap (IntKind.i64.wrap (lim : Int) + 1) = (lim : Int) + 1 := by simp [IntKind.wrap, IntKind.bits, IntKind.signed]; omega
          have hite : (if (lim : Int) + 1 < ((rl ys ys.length).length : Int) then (lim : Int) + 1 else ((rl ys ys.length).length : Int)) = ((rl ys ys.length).length : Int) := by split <;> omega
          refine wpAnyH_take (i := 4) (v := ?_) rfl (by kernel_rfl) (by kernel_rfl) (by kernel_rfl) (fun _ _ _ h => h) (Or.inl ⟨by rfl, ?_⟩) hH2 ?_
          rotate_left
          · (intro w hSw; go_simp; try (with_reducible rfl))
          try simp only [Act.put, List.getElem_toArray, List.getElem_cons_zero, List.getElem_cons_succ, List.setIfInBounds_toArray, List.set_cons_zero, List.set_cons_succ]
          refine wpAnyH_take (i := 5) (v := ?_) rfl (by kernel_rfl) (by kernel_rfl) (by kernel_rfl) (fun _ _ _ h => h) (Or.inl ⟨by rfl, ?_⟩) hH2 ?_
          rotate_left
          · (intro w hSw; go_simp; try (with_reducible rfl))
          try simp only [Act.put, List.getElem_toArray, List.getElem_cons_zero, List.getElem_cons_succ, List.setIfInBounds_toArray, List.set_cons_zero, List.set_cons_succ]
          refine wpAnyH_take (i := 6) (v := ?_) rfl (by kernel_rfl) (by kernel_rfl) (by kernel_rfl) (fun _ _ _ h => h) (Or.inl ⟨by rfl, ?_⟩) hH2 ?_
          rotate_left
          · (intro w hSw; obtain ⟨s1, s2, s3⟩ := hSw; go_simp; try (with_reducible rfl))
          try simp only [Act.put, List.getElem_toArray, List.getElem_cons_zero, List.getElem_cons_succ, List.setIfInBounds_toArray, List.set_cons_zero, List.set_cons_succ]
          refine wpAnyH_take (i := 7) (v := ?_) rfl (by kernel_rfl) (by kernel_rfl) (by kernel_rfl) (fun _ _ _ h => h) (Or.inl ⟨by rfl, ?_⟩) hH2 ?_
          rotate_left
          · (intro w hSw; obtain ⟨s1, s2, s3⟩ := hSw; go_simp; try (with_reducible rfl))
          try simp only [Act.put, List.getElem_toArray, List.getElem_cons_zero, List.getElem_cons_succ, List.setIfInBounds_toArray, List.set_cons_zero, List.set_cons_succ]
          refine wpAnyH_take (i := 8) (v := ?_) rfl (by kernel_rfl) (by kernel_rfl) (by kernel_rfl) (fun _ _ _ h => h) (Or.inl ⟨by rfl, ?_⟩) hH2 ?_
          rotate_left
          · (intro w hSw; go_simp; try (with_reducible rfl))
          try simp only [Act.put, List.getElem_toArray, List.getElem_cons_zero, List.getElem_cons_succ, List.setIfInBounds_toArray, List.set_cons_zero, List.set_cons_succ]
          refine wpAnyH_take (i := 9) (v := ?_) rfl (by kernel_rfl) (by kernel_rfl) (by kernel_rfl) (fun _ _ _ h => h) (Or.inl ⟨by rfl, ?_⟩) hH2 ?_
          rotate_left
          · (intro w hSw; obtain ⟨s1, s2, s3⟩ := hSw; go_simp; try (with_reducible rfl))
          try simp only [Act.put, List.getElem_toArray, List.getElem_cons_zero, List.getElem_cons_succ, List.setIfInBounds_toArray, List.set_cons_zero, List.set_cons_succ]
          refine wpAnyH_take (i := 10) (v := ?_) rfl (by kernel_rfl) (by kernel_rfl) (by kernel_rfl) (fun _ _ _ h => h) (Or.inl ⟨by rfl, ?_⟩) hH2 ?_
          rotate_left
          · (intro w hSw; have hmd := HMD.out; go_simp; try (with_reducible rfl))
          try simp only [Act.put, List.getElem_toArray, List.getElem_cons_zero, List.getElem_cons_succ, List.setIfInBounds_toArray, List.set_cons_zero, List.set_cons_succ]
          refine wpAnyH_take (i := 11) (v := ?_) rfl (by kernel_rfl) (by kernel_rfl) (by kernel_rfl) (fun _ _ _ h => h) (Or.inl ⟨by rfl, ?_⟩) hH2 ?_
          rotate_left
          · (intro w hSw; go_simp; try (with_reducible rfl))
          try simp only [Act.put, List.getElem_toArray, List.getElem_cons_zero, List.getElem_cons_succ, List.setIfInBounds_toArray, List.set_cons_zero, List.set_cons_succ]
          refine wpAnyH_take (i := 12) (v := ?_) rfl (by kernel_rfl) (by kernel_rfl) (by kernel_rfl) (fun _ _ _ h => h) (Or.inl ⟨by rfl, ?_⟩) hH2 ?_
          rotate_left
          · (intro w hSw; go_simp; try (with_reducible rfl))
          try simp only [Act.put, List.getElem_toArray, List.getElem_cons_zero, List.getElem_cons_succ, List.setIfInBounds_toArray, List.set_cons_zero, List.set_cons_succ]
          refine wpAnyH_take (i := 13) (v := ?_) rfl (by kernel_rfl) (by kernel_rfl) (by kernel_rfl) (fun _ _ _ h => h) (Or.inl ⟨by rfl, ?_⟩) hH2 ?_
          rotate_left
          · (intro w hSw; go_simp; try (with_reducible rfl))
          try simp only [Act.put, List.getElem_toArray, List.getElem_cons_zero, List.getElem_cons_succ, List.setIfInBounds_toArray, List.set_cons_zero, List.set_cons_succ]
          refine wpAnyH_take (i := 14) (v := ?_) rfl (by kernel_rfl) (by kernel_rfl) (by kernel_rfl) (fun _ _ _ h => h) (Or.inl ⟨by rfl, ?_⟩) hH2 ?_
          rotate_left
          · (intro w hSw; go_simp; try (with_reducible rfl))
          try simp only [Act.put, List.getElem_toArray, List.getElem_cons_zero, List.getElem_cons_succ, List.setIfInBounds_toArray, List.set_cons_zero, List.set_cons_succ]
          refine wpAnyH_take (i := 15) (v := ?_) rfl (by kernel_rfl) (by kernel_rfl) (by kernel_rfl) (fun _ _ _ h => h) (Or.inl ⟨by rfl, ?_⟩) hH2 ?_
          rotate_left
          · (intro w hSw; go_simp; try (with_reducible rfl))
          try simp only [Act.put, List.getElem_toArray, List.getElem_cons_zero, List.getElem_cons_succ, List.setIfInBounds_toArray, List.set_cons_zero, List.set_cons_succ]
          clear hwl hite
          refine wpAnyH_done (by kernel_rfl) ?_ _
          refine NoPanic.normal ?_
          gi_wp2_with fail
          have HKsdy := hid (kd_go HKsd.out HY2sd.out)
          have HKsusdy := hid (kd_go HKsusd.out HY2sd.out)
          have HKsysusdy := hid (kd_go HKsysusd.out HY2sd.out)
          have HKusysusdy := hid (kd_go HKusysusd.out HY2sd.out)
          rw [roundsIn_succ]
          gi_wp2_with fail
          refine ⟨trivial, callsIn_wide.2 ((awake_any _).mono ?_)⟩
          rintro e wF ⟨rfl, hbF⟩
          have HBF := below_go HVB.out (below_go HXsd.out (below_go HY2sd.out hbF))
          have kd0 := kd_go HKsdy.out hbF
          have kd1 := kd_go HKsusdy.out hbF
          have kd2 := kd_go HKsysusdy.out hbF
          have kd3 := kd_go HKusysusdy.out hbF
          gi_wp2_with fail
          refine ⟨by simp, .inl ⟨_, _, rfl, run_takeDeferred kd0, ⟨by simp, .inl ⟨_, _, rfl, run_takeDeferred (kd_put kd1 lt_Dsu_Dsn), ⟨by simp, .inl ⟨_, _, rfl, run_takeDeferred (kd_put (kd_put kd2 lt_Dn_Dsn) lt_Dn_Dsu), ⟨by simp, .inl ⟨_, _, rfl, run_takeDeferred (kd_put (kd_put (kd_put kd3 lt_Du_Dsn) lt_Du_Dsu) lt_Du_Dn), ?_⟩⟩⟩⟩⟩⟩⟩⟩
          exact ⟨_, results_tmp rfl _ _ _, rfl, (bel_put (bel_put (bel_put (bel_put HBF ge_Dsn kd0) ge_Dsu (kd_put kd1 lt_Dsu_Dsn)) ge_Dn (kd_put (kd_put kd2 lt_Dn_Dsn) lt_Dn_Dsu)) ge_Du (kd_put (kd_put (kd_put kd3 lt_Du_Dsn) lt_Du_Dsu) lt_Du_Dn))⟩
        case stopsn =>
          rintro Dsn cd pre Wsn hDsn hSp ⟨⟨⟨hc, hf⟩, rfl, hpl⟩, hB⟩ hK
          obtain ⟨kk, hkk, hpre⟩ := hSp
          have hle2 : lim + 1 ≤ (rl ys ys.length).length := by have := rl_mono ys _ _ hkk; rw [← hpre, hpl] at this; exact this
          have hle1 : (lim : Int) + 1 ≤ ((rl ys ys.length).length : Int) := by omega
          rw [hpl] at hc
          clear hpre hkk kk
          have HNVss := hid hc
          have HW2ss := hid hB
          have HXss := hid (below_go HXsn.out hB)
          have HBV2ss := hid (show Boxed Wsn y2s.heap.size 22 _ from kd_go HBVsu.out hB)
          have HRV2ss := hid (own_below HRVsu.out hB)
          have HKsuss := hid (kd_go HKsu.out hB)
          have lt_Dsu_Dsn : Dsu < Dsn := by have := (Array.getElem?_eq_some_iff.1 HKsu.out).1; omega
          have HKsysuss := hid (kd_go HKsysu.out hB)
          have lt_Dn_Dsn : Dn < Dsn := by have := (Array.getElem?_eq_some_iff.1 HKsysu.out).1; omega
          have HKusysuss := hid (kd_go HKusysu.out hB)
          have lt_Du_Dsn : Du < Dsn := by have := (Array.getElem?_eq_some_iff.1 HKusysu.out).1; omega
          have ge_Dsn : w.heap.size ≤ Dsn := by have := HVB.out.size; have := HXsn.out.size; omega
          have HKss := hid hK
          have HS3ss := hid (show S3 y2s.heap.size (.slice Aosu (rl ys ys.length).length cosu) Wsu.heap.size (.int .i64 ((lim + 1 : Nat) : Int)) w.heap.size (.int .u8 (st : Int)) Wsn from ⟨HBV2ss.out.cell, hc, (HXss.out.cell (p := ⟨w.heap.size, 0, none⟩) HVST.out.lt).trans HVST.out.cell⟩)
          clear hc hf hB hK
          gi_wp2_with fail
          refine wpIn_wide.2 ?_
          refine wp_region_noPanic ?_
          refine wp_region_held_drew (S := fun W => S3 y2s.heap.size (.slice Aosu (rl ys ys.length).length cosu) Wsu.heap.size (.int .i64 ((lim + 1 : Nat) : Int)) w.heap.size (.int .u8 (st : Int)) W) (by kernel_rfl) HS3ss.out (fun hH0 => ?_)
          refine wpAnyH_take (i := 0) (v := ?_) rfl (by kernel_rfl) (by kernel_rfl) (by kernel_rfl) (fun _ _ _ h => h) (Or.inl ⟨by rfl, ?_⟩) hH0 ?_
          rotate_left
          · (intro w hSw; obtain ⟨s1, s2, s3⟩ := hSw; go_simp; try (with_reducible rfl))
          try simp only [Act.put, List.getElem_toArray, List.getElem_cons_zero, List.setIfInBounds_toArray, List.set_cons_zero, List.set_cons_succ]
          refine wpAnyH_take (i := 1) (v := ?_) rfl (by kernel_rfl) (by kernel_rfl) (by kernel_rfl) (fun _ _ _ h => h) (Or.inl ⟨by rfl, ?_⟩) hH0 ?_
          rotate_left
          · (intro w hSw; go_simp; try (with_reducible rfl))
          try simp only [Act.put, List.getElem_toArray, List.getElem_cons_zero, List.getElem_cons_succ, List.setIfInBounds_toArray, List.set_cons_zero, List.set_cons_succ]
          refine wpAnyH_ready (rs := [2]) (by kernel_rfl) (by simp) ?_
          refine AllReadyH.cons rfl (fun K hK => ?_) AllReadyH.nil
          simp only [List.getElem_toArray, List.getElem_cons_zero, List.getElem_cons_succ]
          go_simp
          refine (rrun_any A2 k0 c2 ys Wsn.drew HK.out.symm (HVY.out.go HXss.out.drew) (by omega)).mono ?_
          rintro e y1ss ⟨Arss, crss, rfl, hor, hbr⟩
          have HY1ss := hid (undrew hbr)
          have HORss := hid hor
          have HS4ss := hid (s3_go HS3ss.out HY1ss.out)
          clear hor hbr
          refine hK.out _ _ HS4ss.out (fun hH1 => ?_)
          clear hK K hH0
          try simp only [Act.put, List.setIfInBounds_toArray, List.set_cons_zero, List.set_cons_succ]
          refine wpAnyH_ready (rs := [3]) (by kernel_rfl) (by simp) ?_
          refine AllReadyH.cons rfl (fun K hK => ?_) AllReadyH.nil
          simp only [List.getElem_toArray, List.getElem_cons_zero, List.getElem_cons_succ]
          go_simp
          refine (same_yes Aosu Arss _ cosu crss _ _ (rl ys ys.length) y1ss rfl (Sl.of_own (own_below HRV2ss.out HY1ss.out)) (Sl.of_own HORss.out) (Nat.le_refl _) (Nat.le_refl _) (by have := rl_len ys ys.length; rw [HK.out.symm] at this ⊢; omega)).mono ?_
          rintro e y2ss ⟨rfl, hbr⟩
          have HY2ss := hid (below_go HY1ss.out hbr)
          have HS5ss := hid (s3_go HS4ss.out hbr)
          clear hbr
          refine hK.out _ _ HS5ss.out (fun hH2 => ?_)
          clear hK K hH1
          try simp only [Act.put, List.setIfInBounds_toArray, List.set_cons_zero, List.set_cons_succ]
          have hwl : IntKind.i64.wrap (IntKind.i64.wrap (lim : Int) + 1) = (lim : Int) + 1 := by simp [IntKind.wrap, IntKind.bits, IntKind.signed]; omega
          have hite : (if (lim : Int) + 1 < ((rl ys ys.length).length : Int) then (lim : Int) + 1 else ((rl ys ys.length).length : Int)) = (lim : Int) + 1 := by split <;> omega
          refine wpAnyH_take (i := 4) (v := ?_) rfl (by kernel_rfl) (by kernel_rfl) (by kernel_rfl) (fun _ _ _ h => h) (Or.inl ⟨by rfl, ?_⟩) hH2 ?_
          rotate_left
          · (intro w hSw; go_simp; try (with_reducible rfl))
          try simp only [Act.put, List.getElem_toArray, List.getElem_cons_zero, List.getElem_cons_succ, List.setIfInBounds_toArray, List.set_cons_zero, List.set_cons_succ]
          refine wpAnyH_take (i := 5) (v := ?_) rfl (by kernel_rfl) (by kernel_rfl) (by kernel_rfl) (fun _ _ _ h => h) (Or.inl ⟨by rfl, ?_⟩) hH2 ?_
          rotate_left
          · (intro w hSw; go_simp; try (with_reducible rfl))
          try simp only [Act.put, List.getElem_toArray, List.getElem_cons_zero, List.getElem_cons_succ, List.setIfInBounds_toArray, List.set_cons_zero, List.set_cons_succ]
          refine wpAnyH_take (i := 6) (v := ?_) rfl (by kernel_rfl) (by kernel_rfl) (by kernel_rfl) (fun _ _ _ h => h) (Or.inl ⟨by rfl, ?_⟩) hH2 ?_
          rotate_left
          · (intro w hSw; obtain ⟨s1, s2, s3⟩ := hSw; go_simp; try (with_reducible rfl))
          try simp only [Act.put, List.getElem_toArray, List.getElem_cons_zero, List.getElem_cons_succ, List.setIfInBounds_toArray, List.set_cons_zero, List.set_cons_succ]
          refine wpAnyH_take (i := 7) (v := ?_) rfl (by kernel_rfl) (by kernel_rfl) (by kernel_rfl) (fun _ _ _ h => h) (Or.inl ⟨by rfl, ?_⟩) hH2 ?_
          rotate_left
          · (intro w hSw; obtain ⟨s1, s2, s3⟩ := hSw; go_simp; try (with_reducible rfl))
          try simp only [Act.put, List.getElem_toArray, List.getElem_cons_zero, List.getElem_cons_succ, List.setIfInBounds_toArray, List.set_cons_zero, List.set_cons_succ]
          refine wpAnyH_take (i := 8) (v := ?_) rfl (by kernel_rfl) (by kernel_rfl) (by kernel_rfl) (fun _ _ _ h => h) (Or.inl ⟨by rfl, ?_⟩) hH2 ?_
          rotate_left
          · (intro w hSw; go_simp; try (with_reducible rfl))
          try simp only [Act.put, List.getElem_toArray, List.getElem_cons_zero, List.getElem_cons_succ, List.setIfInBounds_toArray, List.set_cons_zero, List.set_cons_succ]
          refine wpAnyH_take (i := 9) (v := ?_) rfl (by kernel_rfl) (by kernel_rfl) (by kernel_rfl) (fun _ _ _ h => h) (Or.inl ⟨by rfl, ?_⟩) hH2 ?_
          rotate_left
          · (intro w hSw; obtain ⟨s1, s2, s3⟩ := hSw; go_simp; try (with_reducible rfl))
          try simp only [Act.put, List.getElem_toArray, List.getElem_cons_zero, List.getElem_cons_succ, List.setIfInBounds_toArray, List.set_cons_zero, List.set_cons_succ]
          refine wpAnyH_take (i := 10) (v := ?_) rfl (by kernel_rfl) (by kernel_rfl) (by kernel_rfl) (fun _ _ _ h => h) (Or.inl ⟨by rfl, ?_⟩) hH2 ?_
          rotate_left
          · (intro w hSw; have hmd := HMD.out; go_simp; try (with_reducible rfl))
          try simp only [Act.put, List.getElem_toArray, List.getElem_cons_zero, List.getElem_cons_succ, List.setIfInBounds_toArray, List.set_cons_zero, List.set_cons_succ]
          refine wpAnyH_take (i := 11) (v := ?_) rfl (by kernel_rfl) (by kernel_rfl) (by kernel_rfl) (fun _ _ _ h => h) (Or.inl ⟨by rfl, ?_⟩) hH2 ?_
          rotate_left
          · (intro w hSw; go_simp; try (with_reducible rfl))
          try simp only [Act.put, List.getElem_toArray, List.getElem_cons_zero, List.getElem_cons_succ, List.setIfInBounds_toArray, List.set_cons_zero, List.set_cons_succ]
          refine wpAnyH_take (i := 12) (v := ?_) rfl (by kernel_rfl) (by kernel_rfl) (by kernel_rfl) (fun _ _ _ h => h) (Or.inl ⟨by rfl, ?_⟩) hH2 ?_
          rotate_left
          · (intro w hSw; go_simp; try (with_reducible rfl))
          try simp only [Act.put, List.getElem_toArray, List.getElem_cons_zero, List.getElem_cons_succ, List.setIfInBounds_toArray, List.set_cons_zero, List.set_cons_succ]
          refine wpAnyH_take (i := 13) (v := ?_) rfl (by kernel_rfl) (by kernel_rfl) (by kernel_rfl) (fun _ _ _ h => h) (Or.inl ⟨by rfl, ?_⟩) hH2 ?_
          rotate_left
          · (intro w hSw; go_simp; try (with_reducible rfl))
          try simp only [Act.put, List.getElem_toArray, List.getElem_cons_zero, List.getElem_cons_succ, List.setIfInBounds_toArray, List.set_cons_zero, List.set_cons_succ]
          refine wpAnyH_take (i := 14) (v := ?_) rfl (by kernel_rfl) (by kernel_rfl) (by kernel_rfl) (fun _ _ _ h => h) (Or.inl ⟨by rfl, ?_⟩) hH2 ?_
          rotate_left
          · (intro w hSw; go_simp; try (with_reducible rfl))
          try simp only [Act.put, List.getElem_toArray, List.getElem_cons_zero, List.getElem_cons_succ, List.setIfInBounds_toArray, List.set_cons_zero, List.set_cons_succ]
          refine wpAnyH_take (i := 15) (v := ?_) rfl (by kernel_rfl) (by kernel_rfl) (by kernel_rfl) (fun _ _ _ h => h) (Or.inl ⟨by rfl, ?_⟩) hH2 ?_
          rotate_left
          · (intro w hSw; go_simp; try (with_reducible rfl))
          try simp only [Act.put, List.getElem_toArray, List.getElem_cons_zero, List.getElem_cons_succ, List.setIfInBounds_toArray, List.set_cons_zero, List.set_cons_succ]
          clear hwl hite
          refine wpAnyH_done (by kernel_rfl) ?_ _
          refine NoPanic.normal ?_
          gi_wp2_with fail
          have HKssy := hid (kd_go HKss.out HY2ss.out)
          have HKsussy := hid (kd_go HKsuss.out HY2ss.out)
          have HKsysussy := hid (kd_go HKsysuss.out HY2ss.out)
          have HKusysussy := hid (kd_go HKusysuss.out HY2ss.out)
          rw [roundsIn_succ]
          gi_wp2_with fail
          refine ⟨trivial, callsIn_wide.2 ((awake_any _).mono ?_)⟩
          rintro e wF ⟨rfl, hbF⟩
          have HBF := below_go HVB.out (below_go HXss.out (below_go HY2ss.out hbF))
          have kd0 := kd_go HKssy.out hbF
          have kd1 := kd_go HKsussy.out hbF
          have kd2 := kd_go HKsysussy.out hbF
          have kd3 := kd_go HKusysussy.out hbF
          gi_wp2_with fail
          refine ⟨by simp, .inl ⟨_, _, rfl, run_takeDeferred kd0, ⟨by simp, .inl ⟨_, _, rfl, run_takeDeferred (kd_put kd1 lt_Dsu_Dsn), ⟨by simp, .inl ⟨_, _, rfl, run_takeDeferred (kd_put (kd_put kd2 lt_Dn_Dsn) lt_Dn_Dsu), ⟨by simp, .inl ⟨_, _, rfl, run_takeDeferred (kd_put (kd_put (kd_put kd3 lt_Du_Dsn) lt_Du_Dsu) lt_Du_Dn), ?_⟩⟩⟩⟩⟩⟩⟩⟩
          exact ⟨_, results_tmp rfl _ _ _, rfl, (bel_put (bel_put (bel_put (bel_put HBF ge_Dsn kd0) ge_Dsu (kd_put kd1 lt_Dsu_Dsn)) ge_Dn (kd_put (kd_put kd2 lt_Dn_Dsn) lt_Dn_Dsu)) ge_Du (kd_put (kd_put (kd_put kd3 lt_Du_Dsn) lt_Du_Dsu) lt_Du_Dn))⟩

theorem sruns_no (R : Option Addr) (m cm : Nat) (A : Option Addr) (n c : Nat) (st : Nat) (w : World) (h40 : 40 < m) :
    Calls Try.prog 4 #[.slice R m cm, .slice A n c, .int .u8 st] w fun e w' => e = .returned (.bool true) ∧ Below w.heap.size w w' := by
  go_enter Try.func4, Try.ntmps4
  go_wp2_with fail
  refine (awake_any _).mono ?_
  rintro e w1 ⟨rfl, hb1⟩
  have HB1 := hid (below_go (below_new w #[.int .u8 (st : Int)] 5) hb1)
  clear hb1
  go_wp2_with fail
  refine (awake_any _).mono ?_
  rintro e w2 ⟨rfl, hb2⟩
  have HB2 := hid (below_go HB1.out hb2)
  clear hb2
  go_wp2
  go_ret
  exact ⟨rfl, HB2.out⟩
theorem sruns_walk (R : Option Addr) (m cm : Nat) (zs : List Int) (A : Option Addr) (n c : Nat) (l : List UInt8) (st : Nat) (w : World) (hm : zs.length = m) (hrs : Sl w w.heap.size R (nums .i64 zs)) (hn : l.length = n) (hs : Sl w w.heap.size A (bys l)) :
    Calls Try.prog 4 #[.slice R m cm, .slice A n c, .int .u8 st] w fun e w' => e = .returned (.bool true) ∧ Below w.heap.size w w' := by
  by_cases h : m ≤ 40
  · exact (callsIn_wide (n := 3)).1 (sruns_in R m cm zs A n c l st w hm hrs hn hs h)
  · exact sruns_no R m cm A n c st w (by omega)
end Go.Proofs.Ytcdpfpehjgppcaa
