/-
  slices.AppendSeq, slices.Collect over the iterator; sched.Pick.
-/
import Derived.Maps.AppendAt
import Derived.Test.YtcdpfpehjgppcaaSchI
namespace Go.Proofs.Ytcdpfpehjgppcaa
open Go.RowKit Go.Shelf
attribute [local go_sem] Oper.semAt_some

set_option maxRecDepth 100000 in
set_option maxHeartbeats 2000000 in
theorem appendSeq_in (F : Fence) (n : Nat) (h3 : F.fn 18) (hf : F.fn 17) (hro : F.round = none) (hn : 3 ≤ n) (Bs : Nat) (sv : Value) (zs : List Int) (hlen : zs.length ≤ 100000) (w : World) (hBs : Bs < w.heap.size) (hc : w.cell? ⟨Bs, 0, none⟩ = some sv) (hI : Ints w.heap.size w sv zs) :
    CallsIn F n Try.prog 18 #[.slice none 0 0, .func (.func 17) #[] #[.pointer (some ⟨Bs, 0, none⟩)]] w fun e w' => OwnInts w (rl zs zs.length) (rl zs zs.length).length e w' := by
  have h1 : 1 ≤ n := by omega
  obtain ⟨i0, hi, hz0, hz1, hz2⟩ := info_parts info_int
  refine callsIn_of_wp_marks Try.func18 rfl h3 ?_ hro
  simp only [Try.ntmps18, List.size_toArray, List.length_cons, List.length_nil, Nat.reduceAdd, Nat.reduceSub, Array.replicate_succ, Array.replicate_zero, List.push_toArray, List.append_toArray, List.nil_append, List.cons_append]
  gi_wp2
  have bO := Boxed.new w 22 (.slice none 0 0)
  have hB0 : Below w.heap.size w (w.alloc (.cells #[.slice none 0 0] 22)) := (Below.refl _ w).alloc (Nat.le_refl _) _
  have hc0 : (w.alloc (.cells #[.slice none 0 0] 22)).cell? ⟨Bs, 0, none⟩ = some sv := (hB0.cell (p := ⟨Bs, 0, none⟩) hBs).trans hc
  refine wpIn_rangeFunc_ownG hro h1 (gf := 17) (lb := #[.pointer (some ⟨Bs, 0, none⟩)]) rfl hf (enters_of Try.func17 (by kernel_rfl) rfl)
    (iter_stops F (n - 1) hf hro (by omega) Bs w.heap.size sv zs hlen _ (by simp; omega) (by simp) hc0 (hI.below hB0)) belowK_t (belowK_b (by simp)) (Below.refl _ _) (fun _ => rfl)
    (fun pre W => (∃ v, Boxed W w.heap.size 22 v ∧ W.ownsRow w.heap.size 3 1 v pre.length (pre.map (Value.int .i64)) ∧ True) ∧ Below w.heap.size w W)
    (fun _ _ _ => False)
    (OwnFrom.and (Own.from (holdsRow_own w.heap.size w.heap.size 22 3 1 (fun pre : List Int => pre.length) (fun pre : List Int => pre.map (Value.int .i64)) (fun _ _ => True)) _) (ownFrom_below (Nat.le_refl _) (by simp)))
    (fun _ _ _ _ _ hs _ _ => hs)
    ⟨⟨_, bO, World.ownsRow_nil _ _ _ _, trivial⟩, hB0⟩
    (fun x => { tmps := #[.slice none 0 0, .func (.func 17) #[] #[.pointer (some ⟨Bs, 0, none⟩)], .pointer (some ⟨w.heap.size, 0, none⟩), undef, .slice none 0 0, .int .i64 x, .func (.func 17) #[] #[.pointer (some ⟨Bs, 0, none⟩)], .int .i64 x, undef, undef, undef, undef, undef], defers := [] }) ?assign ?body ?done ?stop
  case assign =>
    intro l x W K hK
    gi_wp2
    exact hK
  case body =>
    rintro l pre x W ⟨⟨v, hv, hrow, _⟩, hB⟩ hlt
    have hc := hv.cell
    gi_wp2_with (gi_at_builtin; refine wpListIn_append_own _ rfl _ _ 22 rfl w.heap.size 3 i0 (.int .i64 0) 1 8 Try.underlying22 hi hz0 hz1 hz2 rfl (by decide) _ _ _ rfl (hrow.alloc _) ⟨W.heap.size, 0, none⟩ 1 1 [.int .i64 x] rfl rfl (cell_one_new _ _ _) (by simp [Value.oneCell']) (by unfold maxLen; omega) (by omega) (by have := hB.size; simp; omega) ?_; intro v' w1 hown' hgrow _; obtain ⟨g', cap', rfl⟩ := ownsRow_succ hown'; obtain ⟨hv1, hv2, hr2, hk2, hb2⟩ := hv.appended (by decide) hrow hB.size (Nat.le_refl _) hown' hgrow; have hc1 := hv1.cell; have hf1 := hv1.frozen)
    exact ⟨hk2.from _, hb2, ⟨_, hv2, by simpa using hr2, trivial⟩, hB.trans hb2⟩
  case done =>
    rintro D ys W hD rfl ⟨⟨v, hv, hrow, _⟩, hB⟩ hK
    obtain ⟨A', c', rfl, _, _⟩ := own_form hrow
    have hc := hv.cell
    gi_wp2
    refine ⟨by simp, .inl ⟨_, _, rfl, run_takeDeferred hK, ?_⟩⟩
    exact ⟨_, results_tmp rfl _ _ _, A', c', rfl, ownsRow_putObj hrow _ hK rfl, hB.trans (belowK_b (w := w) (Nat.le_refl _) W D _ _ (by simp at hD; omega) hK rfl rfl)⟩
  case stop =>
    rintro D c pre W _ _ h _
    exact h.elim

theorem appendSeq_any (Bs : Nat) (sv : Value) (zs : List Int) (hlen : zs.length ≤ 100000) (w : World) (hBs : Bs < w.heap.size) (hc : w.cell? ⟨Bs, 0, none⟩ = some sv) (hI : Ints w.heap.size w sv zs) :
    Calls Try.prog 18 #[.slice none 0 0, .func (.func 17) #[] #[.pointer (some ⟨Bs, 0, none⟩)]] w fun e w' => OwnInts w (rl zs zs.length) (rl zs zs.length).length e w' :=
  (callsIn_wide (n := 3)).1 (appendSeq_in Fence.wide 3 trivial trivial rfl (by omega) Bs sv zs hlen w hBs hc hI)

theorem collect_any (Bs : Nat) (sv : Value) (zs : List Int) (hlen : zs.length ≤ 100000) (w : World) (hBs : Bs < w.heap.size) (hc : w.cell? ⟨Bs, 0, none⟩ = some sv) (hI : Ints w.heap.size w sv zs) :
    Calls Try.prog 15 #[.func (.func 17) #[] #[.pointer (some ⟨Bs, 0, none⟩)]] w fun e w' => OwnInts w (rl zs zs.length) (rl zs zs.length).length e w' := by
  have H := hid (appendSeq_any Bs sv zs hlen w hBs hc hI)
  clear hc hI
  go_enter Try.func15, Try.ntmps15
  go_wp2_with fail
  refine H.out.mono ?_
  rintro e w1 ⟨A1, c1, rfl, ho1, hb1⟩
  have HO := hid (And.intro ho1 hb1)
  clear ho1 hb1
  go_wp2
  go_ret
  exact ⟨A1, c1, rfl, HO.out.1, HO.out.2⟩

/-- What Pick chooses. -/
def pickL (zs : List Int) (q : Nat) : Int × Bool := if (rl zs zs.length).length = 0 then (0, false) else ((rl zs zs.length)[q % (rl zs zs.length).length]?.getD 0, true)
def retP (r : Int × Bool) : Value := .tuple #[.int .i64 r.1, .bool r.2]

set_option maxHeartbeats 1000000 in
theorem pick_any (A : Option Addr) (n c : Nat) (zs : List Int) (q : Nat) (w : World) (hn : zs.length = n) (hs : Sl w w.heap.size A (nums .i64 zs)) (hm : n ≤ 100000) :
    Calls Try.prog 8 #[.slice A n c, .int .u64 q] w fun e w' => e = .returned (retP (pickL zs q)) ∧ Below w.heap.size w w' := by
  have HR := hid (runnable_any A n c zs w hn hs hm)
  have HM := hid (show zs.length ≤ 100000 by omega)
  have HL := hid (rl_len zs zs.length)
  have HN := hid hn
  unfold pickL
  obtain ⟨ys, hys⟩ : ∃ ys, ys = rl zs zs.length := ⟨_, rfl⟩
  have HY := hid hys
  rw [← hys] at HL ⊢
  obtain ⟨m, hm'⟩ : ∃ m, m = ys.length := ⟨_, rfl⟩
  rw [← hm']
  have HMM := hid hm'
  have hm1 : m ≤ 100000 := by have := HL.out; have := HM.out; omega
  obtain ⟨r, hr⟩ : ∃ r : Int × Bool, r = if m = 0 then (0, false) else (ys[q % m]?.getD 0, true) := ⟨_, rfl⟩
  rw [← hr]
  have HRR := hid hr
  clear hn hs hys hm' hr
  go_enter Try.func8, Try.ntmps8
  go_wp2_with fail
  refine HR.out.mono ?_
  rintro e w1 ⟨Bs, A', c', rfl, hc1, _, hB1, ho1, hb1⟩
  have HC := hid (collect_any Bs _ zs HM.out w1 hB1 hc1 (ints_sl HN.out (Sl.of_own ho1)))
  rw [← HY.out] at HC
  rw [← HMM.out] at HC
  have HB1 := hid hb1
  clear hc1 hB1 ho1 hb1
  go_wp2_with fail
  refine HC.out.mono ?_
  rintro e w2 ⟨A2, c2, rfl, ho2, hb2⟩
  have HO2 := hid ho2
  have HB2 := hid (below_go HB1.out hb2)
  clear ho2 hb2
  by_cases h0 : m = 0
  · have HR2 := hid (show r = (0, false) by rw [HRR.out, if_pos h0])
    subst h0
    go_wp2
    go_ret2
    exact ⟨by rw [HR2.out]; rfl, HB2.out⟩
  · have h0' : ¬ (m : Int) = 0 := by omega
    have hq0 : ((m : Int) == 0) = false := by simpa using h0
    have HR2 := HRR.out
    rw [if_neg h0] at HR2
    obtain ⟨k, hk⟩ : ∃ k, k = q % m := ⟨_, rfl⟩
    have hkm : k < m := by rw [hk]; exact Nat.mod_lt _ (by omega)
    have hmod : (q : Int).tmod (m : Int) = (k : Int) := by rw [hk]; exact (Int.ofNat_tmod q m).symm
    rw [← hk] at HR2
    clear hk
    obtain ⟨b, off, hA, _, hcell⟩ := (Sl.of_own HO2.out).num (i := k) (by rw [← HMM.out]; exact hkm)
    subst hA
    have hg : ys[k]?.getD 0 = ys[k]'(by rw [← HMM.out]; exact hkm) := by simp [show k < ys.length by rw [← HMM.out]; exact hkm]
    rw [hg] at HR2
    clear hg
    obtain ⟨y, hy⟩ : ∃ y, y = ys[k]'(by rw [← HMM.out]; exact hkm) := ⟨_, rfl⟩
    rw [← hy] at hcell HR2
    have HR3 := hid HR2
    clear hy HR2
    go_wp2
    go_ret2
    exact ⟨by rw [HR3.out]; rfl, HB2.out⟩
end Go.Proofs.Ytcdpfpehjgppcaa
