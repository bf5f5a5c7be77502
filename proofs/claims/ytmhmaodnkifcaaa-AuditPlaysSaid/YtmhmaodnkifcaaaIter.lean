/-
  The log's iterators: a contract for whatever loop goes over them.
-/
import Derived.RangeFuncNested
import Derived.RangeFuncBound
import Derived.RangeFuncCalls
import Derived.RangeFuncLeaves
import Derived.Shelf.Abstract
import Derived.Shelf.RegionOpen
import Derived.WalkKit
import Derived.OwnWalkIn
import Derived.TacticsInMore
import Derived.LoopNIn
import Derived.LoopIn
import Derived.Test.YtmhmaodnkifcaaaRefM
namespace Go.Proofs.Ytmhmaodnkifcaaa
open Go.RowKit Go.Shelf
attribute [local go_sem] Oper.semAt_some
set_option linter.unusedSimpArgs false
set_option linter.unusedVariables false

set_option maxRecDepth 100000 in
theorem allp_any (p o h a x : Int) (w : World) :
    Calls Try.prog 71 #[evv p o h a x] w fun e w' => e = .returned (.bool true) ∧ Below w.heap.size w w' := by
  unfold evv
  go_enter Try.func71, Try.ntmps71
  go_wp2
  go_ret
  exact ⟨rfl, below_new _ _ _⟩
set_option maxRecDepth 100000 in
theorem queryp_any (Bp : Nat) (z : Int) (p o h a x : Int) (w : World) (hc : w.cell? ⟨Bp, 0, none⟩ = some (.int .i64 z)) :
    Calls Try.prog 70 #[evv p o h a x, .pointer (some ⟨Bp, 0, none⟩)] w fun e w' => e = .returned (.bool (decide (p = z))) ∧ Below w.heap.size w w' := by
  have hlt : Bp < w.heap.size := World.block_lt_of_cell? w ⟨Bp, 0, none⟩ hc
  have hc1 := ((below_new w #[.int .i64 p, .int .i64 o, .int .u64 h, .int .u64 a, .int .i64 x] 36).cell (p := ⟨Bp, 0, none⟩) hlt).trans hc
  unfold evv
  by_cases hpz : p = z
  · subst hpz
    go_enter Try.func70, Try.ntmps70
    go_wp2
    go_ret
    exact ⟨by simp, below_new _ _ _⟩
  · have hpz' : (p == z) = false := by simpa using hpz
    go_enter Try.func70, Try.ntmps70
    go_wp2
    go_ret
    exact ⟨by simp [hpz], below_new _ _ _⟩
set_option maxRecDepth 100000 in
theorem all_any (pa : Option Addr) (w : World) :
    Calls Try.prog 68 #[.pointer pa] w fun e w' => e = .returned (.func (.func 72) #[] #[.pointer (some ⟨w.heap.size, 0, none⟩), .pointer (some ⟨w.heap.size + 1, 0, none⟩)]) ∧
      w' = (w.alloc (.cells #[.pointer pa] 28)).alloc (.cells #[.func (.func 71) #[] #[]] 83) := by
  go_enter Try.func68, Try.ntmps68
  go_wp2
  go_ret
  exact ⟨rfl, rfl⟩
set_option maxRecDepth 100000 in
theorem query_any (pa : Option Addr) (z : Int) (w : World) :
    Calls Try.prog 59 #[.pointer pa, .int .i64 z] w fun e w' => e = .returned (.func (.func 72) #[] #[.pointer (some ⟨w.heap.size + 1, 0, none⟩), .pointer (some ⟨w.heap.size + 1 + 1, 0, none⟩)]) ∧
      w' = ((w.alloc (.cells #[.int .i64 z] 3)).alloc (.cells #[.pointer pa] 28)).alloc (.cells #[.func (.func 70) #[] #[.pointer (some ⟨w.heap.size, 0, none⟩)]] 83) := by
  go_enter Try.func59, Try.ntmps59
  go_wp2
  go_ret
  exact ⟨rfl, rfl⟩

/-- The indexes and events among the first k that fit. -/
def il (P : Ev → Bool) (es : List Ev) (k : Nat) : List (Nat × Ev) := ((List.range k).filter fun i => (es[i]?.map P).getD false).map fun i => (i, es[i]?.getD (0, 0, 0, 0, 0))
theorem il_hit {P : Ev → Bool} {es : List Ev} {k : Nat} (hk : k < es.length) (h : P es[k] = true) : il P es (k + 1) = il P es k ++ [(k, es[k])] := by
  simp [il, List.range_succ, hk, h]
theorem il_miss {P : Ev → Bool} {es : List Ev} {k : Nat} (hk : k < es.length) (h : P es[k] = false) : il P es (k + 1) = il P es k := by
  simp [il, List.range_succ, hk, h]
theorem il_len (P : Ev → Bool) (es : List Ev) (k : Nat) : (il P es k).length ≤ k := by
  unfold il
  rw [List.length_map]
  exact Nat.le_trans (List.length_filter_le _ _) (by simp)
/-- All blocks below n₀ lie as they lay, but for the block B. -/
def Ko (n₀ B : Nat) (W W' : World) : Prop := (∀ k, k < n₀ → k ≠ B → W'.heap[k]? = W.heap[k]?) ∧ W.heap.size ≤ W'.heap.size
theorem Ko.refl (n₀ B : Nat) (W : World) : Ko n₀ B W W := ⟨fun _ _ _ => rfl, Nat.le_refl _⟩
theorem ko_t {n₀ B : Nat} {W1 W2 W3 : World} (h : Ko n₀ B W1 W2) (k : Ko n₀ B W2 W3) : Ko n₀ B W1 W3 := ⟨fun i h1 h2 => (k.1 i h1 h2).trans (h.1 i h1 h2), Nat.le_trans h.2 k.2⟩
theorem ko_b {n₀ B : Nat} {w : World} (hn : n₀ ≤ w.heap.size) (W : World) (l : Nat) (o o' : Obj) (hl : w.heap.size ≤ l) (h : W.heap[l]? = some o) (_ : o.isCells = false) (_ : o.isWalk = false) : Ko n₀ B W (W.putObj l o') :=
  ⟨fun k h1 _ => (grownBy_putObj' W l o').block k (by have := (Array.getElem?_eq_some_iff.1 h).1; omega) (by simp; omega), (grownBy_putObj' W l o').size⟩
theorem ko_below {n₀ B : Nat} {W W' : World} (h : Below W.heap.size W W') (hn : n₀ ≤ W.heap.size) : Ko n₀ B W W' := ⟨fun k h1 _ => h.block k (Nat.lt_of_lt_of_le h1 hn), h.size⟩
/-- An index and an event as yield's arguments. -/
def encI (x : Nat × Ev) : Array Value := #[.int .i64 (x.1 : Int), .agg #[.int .i64 (x.2.1 : Int), .int .i64 (x.2.2.1 : Int), .int .u64 (x.2.2.2.1 : Int), .int .u64 (x.2.2.2.2.1 : Int), .int .i64 (x.2.2.2.2.2 : Int)]]
/-- A log as an iterator sees it: nil, or a row of events, in blocks below n₀ that are not B. -/
def IterV (n₀ B : Nat) (w : World) (pa : Option Addr) (es : List Ev) : Prop :=
  (pa = none ∧ es = []) ∨ ∃ (g : Nat) (A : Option Addr) (c : Nat), pa = some ⟨g, 0, none⟩ ∧ g < n₀ ∧ g ≠ B ∧ w.cell? ⟨g, 1, none⟩ = some (.slice A es.length c) ∧ es.length ≤ c ∧ (es = [] ∨ ∃ b off, A = some ⟨b, off, none⟩ ∧ b < n₀ ∧ b ≠ B ∧ ∀ j u, (evs es)[j]? = some u → w.cell? ⟨b, off + j, none⟩ = some u)

set_option maxRecDepth 100000 in
set_option maxHeartbeats 2000000 in
theorem all_stops (n : Nat) (hn : 2 ≤ n) (Bl Bf n₀ B : Nat) (pa : Option Addr) (es : List Ev) (hm : es.length ≤ 1000) (w : World) (hn₀ : n₀ ≤ w.heap.size) (hBl : Bl < n₀) (hBf : Bf < n₀) (hBlB : Bl ≠ B) (hBfB : Bf ≠ B)
    (hcl : w.cell? ⟨Bl, 0, none⟩ = some (.pointer pa)) (hcf : w.cell? ⟨Bf, 0, none⟩ = some (.func (.func 71) #[] #[])) (hV : IterV n₀ B w pa es) :
    SeqStopsK Fence.wide n Try.prog 72 #[.pointer (some ⟨Bl, 0, none⟩), .pointer (some ⟨Bf, 0, none⟩)] encI (Ko n₀ B) (fun ys => ys = il (fun _ => true) es es.length) (fun pre => ∃ k, k ≤ es.length ∧ pre = il (fun _ => true) es k) es.length w := fun l J Jx W hW hJ hJx hY h0 => by
  have hcl' := (hW.cell (p := ⟨Bl, 0, none⟩) (Nat.lt_of_lt_of_le hBl hn₀)).trans hcl
  have hnW : n₀ ≤ W.heap.size := Nat.le_trans hn₀ hW.size
  refine callsIn_of_wp Try.func72 rfl trivial ?_ rfl
  simp only [Try.ntmps72, List.size_toArray, List.length_cons, List.length_nil, Nat.reduceAdd, Nat.reduceSub, Array.replicate_succ, Array.replicate_zero, List.push_toArray, List.append_toArray, List.nil_append, List.cons_append]
  rcases hV with ⟨rfl, rfl⟩ | ⟨g, A, c, rfl, hg, hgB, hcg, hc, hrow⟩
  · gi_wp2
    refine bodyPost_ret (results_none rfl _ _ _) rfl ?_
    exact ⟨⟨_, rfl⟩, .inl ⟨_, rfl, h0⟩⟩
  · have hcg' := (hW.cell (p := ⟨g, 1, none⟩) (Nat.lt_of_lt_of_le hg hn₀)).trans hcg
    obtain ⟨ne, hne⟩ : ∃ ne, ne = es.length := ⟨_, rfl⟩
    have HNE := hid hne
    rw [← hne] at hcg' hc hY hm ⊢
    have HROW := hid hrow
    have HCF := hid hcf
    clear hcg hcl hrow hcf hne
    gi_wp2
    clear hcg' hcl'
    gi_loopw [13] (fun i wr => ∃ k : Nat, k ≤ ne ∧ i = .int .i64 k ∧ J (il (fun _ => true) es k) wr ∧ Ko n₀ B W wr) (fun i _ => ne - (intOf i).toNat)
    case atStart => exact ⟨0, Nat.zero_le _, rfl, h0, Ko.refl _ _ _⟩
    case round =>
      obtain ⟨k, hk, rfl, hJs, hKo⟩ := hrel
      have hnr : n₀ ≤ wr.heap.size := Nat.le_trans hnW hKo.2
      by_cases hlt : k < ne
      · have hk' : k < es.length := by rw [← HNE.out]; exact hlt
        obtain ⟨b, off, rfl, hb, hbB, hcs⟩ : ∃ b off, A = some ⟨b, off, none⟩ ∧ b < n₀ ∧ b ≠ B ∧ ∀ j u, (evs es)[j]? = some u → w.cell? ⟨b, off + j, none⟩ = some u := by
          rcases HROW.out with h | h
          · rw [h] at hk'; simp at hk'
          · exact h
        have hsl : Sl wr n₀ (some ⟨b, off, none⟩) (evs es) := .inr ⟨b, off, rfl, hb, fun j u hu => (World.cell?_of_block (a := ⟨b, off + j, none⟩) (hKo.1 b hb hbB)).trans ((hW.cell (p := ⟨b, off + j, none⟩) (Nat.lt_of_lt_of_le hb hn₀)).trans (hcs j u hu))⟩
        obtain ⟨_, _, e1, _, q0, q1, q2, q3, q4⟩ := sl_ev hsl hk'
        cases e1
        have hcf1 : wr.cell? ⟨Bf, 0, none⟩ = some (.func (.func 71) #[] #[]) := (World.cell?_of_block (a := ⟨Bf, 0, none⟩) (hKo.1 Bf hBf hBfB)).trans ((hW.cell (p := ⟨Bf, 0, none⟩) (Nat.lt_of_lt_of_le hBf hn₀)).trans HCF.out)
        have HHIT := hid (il_hit (P := (fun _ => true)) hk' rfl)
        have HLEN := hid (il_len (fun _ => true) es k)
        obtain ⟨⟨p, o, h, a, x⟩, hev⟩ : ∃ v, es[k] = v := ⟨_, rfl⟩
        rw [hev] at q0 q1 q2 q3 q4 HHIT
        simp only at q0 q1 q2 q3 q4
        have HJS := hid hJs
        have HKO := hid hKo
        have hBfr := World.block_lt_of_cell? wr ⟨Bf, 0, none⟩ hcf1
        have hcf2 := cell_go hcf1 (below_new wr #[.int .i64 (p : Int), .int .i64 (o : Int), .int .u64 (h : Int), .int .u64 (a : Int), .int .i64 (x : Int)] 36)
        have HIS := hid (allp_any p o h a x (wr.alloc (.cells #[.int .i64 (p : Int), .int .i64 (o : Int), .int .u64 (h : Int), .int .u64 (a : Int), .int .i64 (x : Int)] 36)))
        unfold evv at HIS
        have HE1 := hid (ev_new p o h a x wr)
        clear hcs hsl hev hJs hKo
        gi_wp2_with fail
        refine ⟨trivial, fun _ => by omega, callsIn_wide.2 (HIS.out.mono ?_)⟩
        rintro e W2 ⟨rfl, hb2⟩
        have hbw := below_go (below_new wr #[.int .i64 (p : Int), .int .i64 (o : Int), .int .u64 (h : Int), .int .u64 (a : Int), .int .i64 (x : Int)] 36) hb2
        have HK2 := hid (ko_t HKO.out (ko_below hbw hnr))
        have hJ2 := hJ _ wr W2 none HJS.out (grown_of hbw none) (fun r e => by cases e)
        have HE2 := hid (ev_keep HE1.out hb2)
        obtain ⟨fn, tmps, assign, body, hy, hR⟩ := hY _ (k, (p, o, h, a, x)) W2 hJ2 (Nat.lt_of_le_of_lt HLEN.out hlt)
        unfold encI at hy
        dsimp only at hy
        obtain ⟨⟨f0, f1, f2, f3, f4⟩, hgf⟩ := HE2.out
        clear q0 q1 q2 q3 q4 hcf1 hcf2 hBfr hb2 hbw hJ2
        gi_wp2
        clear f0 f1 f2 f3 f4 hgf
        refine ⟨fun _ => by omega, hR.mono ?_⟩
        rintro e W3 (⟨rfl, hJ3, hk3⟩ | ⟨rfl, hJx3⟩)
        · have HK3 := hid (ko_t HK2.out hk3)
          gi_wp2
          go_roundw
          case rel => exact ⟨k + 1, by omega, by go_num, by rw [(HHIT.out)]; exact hJ3, HK3.out⟩
          case measure => simp [intOf]; omega
        · gi_wp2
          refine bodyPost_ret (results_none rfl _ _ _) rfl ?_
          exact ⟨⟨_, rfl⟩, .inr ⟨_, ⟨k + 1, by omega, (HHIT.out).symm⟩, hJx3⟩⟩
      · obtain rfl : ne = k := by omega
        gi_wp2
        go_end0
        exact ⟨⟨_, rfl⟩, .inl ⟨_, rfl, hJs⟩⟩

set_option maxRecDepth 100000 in
set_option maxHeartbeats 2000000 in
theorem query_stops (n : Nat) (hn : 2 ≤ n) (Bl Bf n₀ B : Nat) (Bp : Nat) (z : Int) (pa : Option Addr) (es : List Ev) (hm : es.length ≤ 1000) (w : World) (hn₀ : n₀ ≤ w.heap.size) (hBl : Bl < n₀) (hBf : Bf < n₀) (hBlB : Bl ≠ B) (hBfB : Bf ≠ B) (hBp : Bp < n₀) (hBpB : Bp ≠ B) (hcp : w.cell? ⟨Bp, 0, none⟩ = some (.int .i64 z))
    (hcl : w.cell? ⟨Bl, 0, none⟩ = some (.pointer pa)) (hcf : w.cell? ⟨Bf, 0, none⟩ = some (.func (.func 70) #[] #[.pointer (some ⟨Bp, 0, none⟩)])) (hV : IterV n₀ B w pa es) :
    SeqStopsK Fence.wide n Try.prog 72 #[.pointer (some ⟨Bl, 0, none⟩), .pointer (some ⟨Bf, 0, none⟩)] encI (Ko n₀ B) (fun ys => ys = il (fun e => decide ((e.1 : Int) = z)) es es.length) (fun pre => ∃ k, k ≤ es.length ∧ pre = il (fun e => decide ((e.1 : Int) = z)) es k) es.length w := fun l J Jx W hW hJ hJx hY h0 => by
  have hcl' := (hW.cell (p := ⟨Bl, 0, none⟩) (Nat.lt_of_lt_of_le hBl hn₀)).trans hcl
  have hnW : n₀ ≤ W.heap.size := Nat.le_trans hn₀ hW.size
  refine callsIn_of_wp Try.func72 rfl trivial ?_ rfl
  simp only [Try.ntmps72, List.size_toArray, List.length_cons, List.length_nil, Nat.reduceAdd, Nat.reduceSub, Array.replicate_succ, Array.replicate_zero, List.push_toArray, List.append_toArray, List.nil_append, List.cons_append]
  rcases hV with ⟨rfl, rfl⟩ | ⟨g, A, c, rfl, hg, hgB, hcg, hc, hrow⟩
  · gi_wp2
    refine bodyPost_ret (results_none rfl _ _ _) rfl ?_
    exact ⟨⟨_, rfl⟩, .inl ⟨_, rfl, h0⟩⟩
  · have hcg' := (hW.cell (p := ⟨g, 1, none⟩) (Nat.lt_of_lt_of_le hg hn₀)).trans hcg
    obtain ⟨ne, hne⟩ : ∃ ne, ne = es.length := ⟨_, rfl⟩
    have HNE := hid hne
    rw [← hne] at hcg' hc hY hm ⊢
    have HROW := hid hrow
    have HCF := hid hcf
    clear hcg hcl hrow hcf hne
    gi_wp2
    clear hcg' hcl'
    gi_loopw [13] (fun i wr => ∃ k : Nat, k ≤ ne ∧ i = .int .i64 k ∧ J (il (fun e => decide ((e.1 : Int) = z)) es k) wr ∧ Ko n₀ B W wr) (fun i _ => ne - (intOf i).toNat)
    case atStart => exact ⟨0, Nat.zero_le _, rfl, h0, Ko.refl _ _ _⟩
    case round =>
      obtain ⟨k, hk, rfl, hJs, hKo⟩ := hrel
      have hnr : n₀ ≤ wr.heap.size := Nat.le_trans hnW hKo.2
      by_cases hlt : k < ne
      · have hk' : k < es.length := by rw [← HNE.out]; exact hlt
        obtain ⟨b, off, rfl, hb, hbB, hcs⟩ : ∃ b off, A = some ⟨b, off, none⟩ ∧ b < n₀ ∧ b ≠ B ∧ ∀ j u, (evs es)[j]? = some u → w.cell? ⟨b, off + j, none⟩ = some u := by
          rcases HROW.out with h | h
          · rw [h] at hk'; simp at hk'
          · exact h
        have hsl : Sl wr n₀ (some ⟨b, off, none⟩) (evs es) := .inr ⟨b, off, rfl, hb, fun j u hu => (World.cell?_of_block (a := ⟨b, off + j, none⟩) (hKo.1 b hb hbB)).trans ((hW.cell (p := ⟨b, off + j, none⟩) (Nat.lt_of_lt_of_le hb hn₀)).trans (hcs j u hu))⟩
        obtain ⟨_, _, e1, _, q0, q1, q2, q3, q4⟩ := sl_ev hsl hk'
        cases e1
        have hcf1 : wr.cell? ⟨Bf, 0, none⟩ = some (.func (.func 70) #[] #[.pointer (some ⟨Bp, 0, none⟩)]) := (World.cell?_of_block (a := ⟨Bf, 0, none⟩) (hKo.1 Bf hBf hBfB)).trans ((hW.cell (p := ⟨Bf, 0, none⟩) (Nat.lt_of_lt_of_le hBf hn₀)).trans HCF.out)
        have HHIT := hid (il_hit (P := (fun e => decide ((e.1 : Int) = z))) hk')
        have HMISS := hid (il_miss (P := (fun e => decide ((e.1 : Int) = z))) hk')
        have HLEN := hid (il_len (fun e => decide ((e.1 : Int) = z)) es k)
        obtain ⟨⟨p, o, h, a, x⟩, hev⟩ : ∃ v, es[k] = v := ⟨_, rfl⟩
        rw [hev] at q0 q1 q2 q3 q4 HHIT HMISS
        simp only at q0 q1 q2 q3 q4
        have HJS := hid hJs
        have HKO := hid hKo
        have hBfr := World.block_lt_of_cell? wr ⟨Bf, 0, none⟩ hcf1
        have hcf2 := cell_go hcf1 (below_new wr #[.int .i64 (p : Int), .int .i64 (o : Int), .int .u64 (h : Int), .int .u64 (a : Int), .int .i64 (x : Int)] 36)
        have hq1 : (wr.alloc (.cells #[.int .i64 (p : Int), .int .i64 (o : Int), .int .u64 (h : Int), .int .u64 (a : Int), .int .i64 (x : Int)] 36)).cell? ⟨Bp, 0, none⟩ = some (.int .i64 z) := cell_go ((World.cell?_of_block (a := ⟨Bp, 0, none⟩) (hKo.1 Bp hBp hBpB)).trans ((hW.cell (p := ⟨Bp, 0, none⟩) (Nat.lt_of_lt_of_le hBp hn₀)).trans hcp)) (below_new _ _ _)
        have HIS := hid (queryp_any Bp z p o h a x _ hq1)
        unfold evv at HIS
        have HE1 := hid (ev_new p o h a x wr)
        clear hcs hsl hev hJs hKo hq1
        gi_wp2_with fail
        by_cases hpz : (p : Int) = z
        · refine ⟨trivial, fun _ => by omega, callsIn_wide.2 (HIS.out.mono ?_)⟩
          rintro e W2 ⟨rfl, hb2⟩
          have hbw := below_go (below_new wr #[.int .i64 (p : Int), .int .i64 (o : Int), .int .u64 (h : Int), .int .u64 (a : Int), .int .i64 (x : Int)] 36) hb2
          have HK2 := hid (ko_t HKO.out (ko_below hbw hnr))
          have hJ2 := hJ _ wr W2 none HJS.out (grown_of hbw none) (fun r e => by cases e)
          have HE2 := hid (ev_keep HE1.out hb2)
          obtain ⟨fn, tmps, assign, body, hy, hR⟩ := hY _ (k, (p, o, h, a, x)) W2 hJ2 (Nat.lt_of_le_of_lt HLEN.out hlt)
          unfold encI at hy
          dsimp only at hy
          obtain ⟨⟨f0, f1, f2, f3, f4⟩, hgf⟩ := HE2.out
          clear q0 q1 q2 q3 q4 hcf1 hcf2 hBfr hb2 hbw hJ2
          have hpt : decide ((p : Int) = z) = true := by simpa using hpz
          have HPT := hid hpt
          rw [hpt]
          clear hpt hpz
          gi_wp2
          clear f0 f1 f2 f3 f4 hgf
          refine ⟨fun _ => by omega, hR.mono ?_⟩
          rintro e W3 (⟨rfl, hJ3, hk3⟩ | ⟨rfl, hJx3⟩)
          · have HK3 := hid (ko_t HK2.out hk3)
            gi_wp2
            go_roundw
            case rel => exact ⟨k + 1, by omega, by go_num, by rw [(HHIT.out HPT.out)]; exact hJ3, HK3.out⟩
            case measure => simp [intOf]; omega
          · gi_wp2
            refine bodyPost_ret (results_none rfl _ _ _) rfl ?_
            exact ⟨⟨_, rfl⟩, .inr ⟨_, ⟨k + 1, by omega, (HHIT.out HPT.out).symm⟩, hJx3⟩⟩
        · refine ⟨trivial, fun _ => by omega, callsIn_wide.2 (HIS.out.mono ?_)⟩
          rintro e W2 ⟨rfl, hb2⟩
          have hbw := below_go (below_new wr #[.int .i64 (p : Int), .int .i64 (o : Int), .int .u64 (h : Int), .int .u64 (a : Int), .int .i64 (x : Int)] 36) hb2
          have HK2 := hid (ko_t HKO.out (ko_below hbw hnr))
          have HJ2 := hid (hJ _ wr W2 none HJS.out (grown_of hbw none) (fun r e => by cases e))
          clear q0 q1 q2 q3 q4 hcf1 hcf2 hBfr hb2 hbw
          have hpf : decide ((p : Int) = z) = false := by simpa using hpz
          clear hpz
          rw [hpf]
          gi_wp2
          refine ⟨fun _ h => (by cases h), ?_⟩
          gi_wp2
          go_roundw
          case rel => exact ⟨k + 1, by omega, by go_num, by rw [HMISS.out hpf]; exact HJ2.out, HK2.out⟩
          case measure => simp [intOf]; omega
      · obtain rfl : ne = k := by omega
        gi_wp2
        go_end0
        exact ⟨⟨_, rfl⟩, .inl ⟨_, rfl, hJs⟩⟩
end Go.Proofs.Ytmhmaodnkifcaaa
