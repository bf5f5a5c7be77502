/-
  SchedEach walked.
-/
import Derived.Test.YtcdpfpehjgppcaaLawS1
import Derived.Test.YtcdpfpehjgppcaaSchK
namespace Go.Proofs.Ytcdpfpehjgppcaa
open Go.RowKit Go.Shelf
attribute [local go_sem] Oper.semAt_some
set_option linter.unusedSimpArgs false

theorem pick_lt {zs : List Int} {k : Nat} (h : k < (rl zs zs.length).length) : pickL zs k = ((rl zs zs.length)[k], true) := by
  unfold pickL
  rw [if_neg (by omega), Nat.mod_eq_of_lt h]
  simp [h]
theorem rl_mem {zs : List Int} {m k : Nat} (h : k < (rl zs m).length) : ∃ i : Nat, i < m ∧ (rl zs m)[k] = (i : Int) + 1 ∧ zs[i]?.getD 0 = 1 := by
  have hm : (rl zs m)[k] ∈ rl zs m := List.getElem_mem h
  unfold rl at hm
  obtain ⟨i, hi, he⟩ := List.mem_map.1 hm
  obtain ⟨h1, h2⟩ := List.mem_filter.1 hi
  exact ⟨i, by simpa using h1, he.symm, by simpa using h2⟩
theorem rl_asc (zs : List Int) (m : Nat) : (rl zs m).Pairwise (· < ·) := by
  unfold rl
  refine List.Pairwise.map _ (fun a b (h : a < b) => ?_) (List.Pairwise.filter _ List.pairwise_lt_range)
  omega
theorem pick_some (zs : List Int) (q : Nat) : (pickL zs q).2 = decide (0 < (rl zs zs.length).length) := by
  unfold pickL
  by_cases h : (rl zs zs.length).length = 0
  · rw [if_pos h]; exact (decide_eq_false (by omega)).symm
  · rw [if_neg h]; exact (decide_eq_true (by omega)).symm

set_option maxRecDepth 100000 in
set_option maxHeartbeats 2000000 in
theorem each_in (A : Option Addr) (n c : Nat) (l : List UInt8) (w : World) (hn : l.length = n) (hs : Sl w w.heap.size A (bys l)) :
    CallsIn Fence.wide 3 Try.prog 5 #[.slice A n c] w fun e w' => e = .returned (.bool true) ∧ Below w.heap.size w w' := by
  have HST := hid (fun (w' : World) (hb : Below w.heap.size w w') => states_any A n c l w' hn (hs.go hb))
  have HSL := hid (stL_len l)
  obtain ⟨ys, hys⟩ : ∃ ys, ys = stL l := ⟨_, rfl⟩
  rw [← hys] at HST HSL
  obtain ⟨k0, hk⟩ : ∃ k, k = ys.length := ⟨_, rfl⟩
  have HK := hid hk
  rw [← hk] at HSL HST
  have hk70 := HSL.out
  clear hn hs hys hk
  refine callsIn_of_wp_marks Try.func5 rfl trivial ?_ rfl
  simp only [Try.ntmps5, List.size_toArray, List.length_cons, List.length_nil, Nat.reduceAdd, Nat.reduceSub, Array.replicate_succ, Array.replicate_zero, List.push_toArray, List.append_toArray, List.nil_append, List.cons_append]
  gi_wp2_with fail
  refine ⟨trivial, callsIn_wide.2 ((awake_any _).mono ?_)⟩
  rintro e w1 ⟨rfl, hb1⟩
  have HB1 := hid hb1
  clear hb1
  gi_wp2_with fail
  refine ⟨trivial, callsIn_wide.2 ((HST.out _ HB1.out).mono ?_)⟩
  rintro e w2 ⟨A2, c2, rfl, ho2, hb2⟩
  have HO2 := hid ho2
  have HB2 := hid (below_go HB1.out hb2)
  clear ho2 hb2
  have HB3 := hid (below_new w2 #[.int .i64 0] 3)
  have HO3 := hid (own_below HO2.out HB3.out)
  have HRN := hid (runnable_any A2 k0 c2 ys (w2.alloc (.cells #[.int .i64 0] 3)) HK.out.symm (Sl.of_own HO3.out) (by omega))
  gi_wp2_with fail
  refine ⟨trivial, callsIn_wide.2 (HRN.out.mono ?_)⟩
  rintro e w3 ⟨Bs, A3, c3, rfl, hc3, hB1, hB2, ho3, hb3⟩
  have HC3 := hid hc3
  have HBS := hid (And.intro hB1 hB2)
  have HO4 := hid ho3
  have HP4 := hid (own_below HO3.out hb3)
  have HB4 := hid (below_go HB3.out hb3)
  have HX := hid ((show Boxed w3 w2.heap.size 3 (.int .i64 0) from (hb3.block w2.heap.size (by simp)).trans (Boxed.new w2 3 (.int .i64 0))))
  clear hc3 hB1 hB2 ho3 hb3
  have hw23 : w2.heap.size < w3.heap.size := by have := HX.out.lt; exact this
  have HIK := hid (show IntsK w3.heap.size w2.heap.size w3 (.slice A3 k0 c3) ys from by
    rw [HK.out]
    refine ⟨A3, c3, rfl, fun j hj => ?_⟩
    obtain ⟨b, off, hA, hb, hc⟩ := (Sl.of_own HO4.out).num hj
    have := own_lt HO4.out b (by rw [hA]; rfl)
    exact ⟨b, off, hA, hb, by simp at this; omega, by rw [hc]; simp [hj]⟩)
  have HM := hid (show ys.length ≤ 100000 by rw [← HK.out]; omega)
  gi_wp2_with fail
  refine wpIn_rangeFunc_ownG rfl (by omega) (gf := 17) (lb := #[.pointer (some ⟨Bs, 0, none⟩)]) rfl trivial (enters_of Try.func17 (by kernel_rfl) rfl)
    (iter_stopsK Fence.wide (3 - 1) trivial rfl (by omega) Bs w3.heap.size w2.heap.size _ ys HM.out w3 HBS.out.2 (Nat.le_refl _) HC3.out HIK.out) ko_t (ko_b (Nat.le_refl _)) (Below.refl _ _) (fun _ => rfl)
    (fun pre W => (W.cell? ⟨w2.heap.size, 0, none⟩ = some (.int .i64 (pre.length : Int)) ∧ W.frozen? ⟨w2.heap.size, 0, none⟩ = false) ∧ Below w2.heap.size w2 W)
    (fun _ _ _ => False)
    (OwnFrom.and (Own.from (fun s A B row hs hg hr => ⟨cell_kept hs.1 hg hr, (frozen_kept hs.1 hg hr).trans hs.2⟩) _) (ownFrom_below (Nat.le_refl _) (by omega)))
    (fun _ _ _ _ _ hs _ _ => hs)
    ⟨⟨HX.out.cell, HX.out.frozen⟩, HB4.out⟩
    ?a1 ?assign ?body ?done ?stop
  case assign =>
    intro l x W K hK
    gi_wp2
    simp only [List.zip_toArray, List.zip_cons_cons, List.zip_nil_right, List.foldl_toArray, List.foldl_cons, List.foldl_nil, List.setIfInBounds_toArray, List.set_cons_zero, List.set_cons_succ]
    exact hK
  case body =>
    rintro l pre x W ⟨⟨hc, hf⟩, hB⟩ hlt
    have hw : wrap64 ((pre.length : Int) + 1) = ((pre ++ [x]).length : Int) := by
      have := HM.out
      simp
      unfold wrap64
      omega
    gi_wp2
    exact ⟨(KeepsOthers.setCell _ _ _).from _, fun k _ hne => Below.heap_setCell _ _ _ k hne, ⟨by rw [show ((pre ++ [x]).length : Int) = (pre.length : Int) + 1 by simp]; exact World.cell?_setCell_same' _ _ _ (by rw [hc]; rfl), by rw [World.frozen?_setCell]; exact hf⟩, hB.setCell (Nat.le_refl _) _⟩
  case done =>
    rintro D xs W hD rfl ⟨⟨hc, hf⟩, hB⟩ hK
    have HCN := hid hc
    have HBW := hid hB
    have HKD := hid hK
    clear hc hf hB hK
    have HP := hid (fun (q : Nat) (w' : World) (hb : Below w2.heap.size w2 w') => pick_any A2 k0 c2 ys q w' HK.out.symm ((Sl.of_own HO2.out).go hb) (by omega))
    have HLT := hid (fun k (h : k < (rl ys ys.length).length) => pick_lt h)
    have HMEM := hid (fun k (h : k < (rl ys ys.length).length) => rl_mem h)
    have HASC := hid (rl_asc ys ys.length)
    have HSM := hid (pick_some ys 5)
    have HRL := hid (rl_len ys ys.length)
    generalize rl ys ys.length = rs at HLT HMEM HASC HSM HCN HRL
    obtain ⟨m, hm⟩ : ∃ m, m = rs.length := ⟨_, rfl⟩
    have HMR := hid hm
    rw [← hm] at HSM HCN HRL
    have hm70 : m ≤ 70 := by have := HRL.out; rw [← HK.out] at this; omega
    clear hm
    gi_wp2_with fail
    gi_loopw [5, 6] (fun v i wr => ∃ (k : Nat) (lv : Int), k ≤ m ∧ v = .int .i64 lv ∧ i = .int .i64 k ∧ (∀ j (hj : j < rs.length), k ≤ j → lv < rs[j]) ∧ Below W.heap.size W wr) (fun _ i _ => m - (intOf i).toNat)
    case atStart =>
      refine ⟨0, 0, Nat.zero_le _, rfl, rfl, fun j hj _ => ?_, Below.refl _ _⟩
      obtain ⟨i, _, he, _⟩ := HMEM.out j hj
      rw [he]; omega
    case round =>
      obtain ⟨k, lv, hk, rfl, rfl, hl, hb⟩ := hrel
      have HLV := hid hl
      have HB := hid hb
      clear hl hb
      have hcn := (HB.out.cell (p := ⟨w2.heap.size, 0, none⟩) (World.block_lt_of_cell? W _ HCN.out)).trans HCN.out
      by_cases hlt : k < m
      · have hkr : k < rs.length := by rw [← HMR.out]; exact hlt
        obtain ⟨i, hi, he, hy⟩ := HMEM.out k hkr
        have HC := hid (HP.out k wr (below_go HBW.out HB.out))
        rw [HLT.out k hkr, he] at HC
        unfold retP at HC
        have hlv := HLV.out k hkr (Nat.le_refl _)
        rw [he] at hlv
        have HN := hid (show ∀ j (hj : j < rs.length), k + 1 ≤ j → (i : Int) + 1 < rs[j] by
          intro j hj hkj
          rw [← he]
          exact List.pairwise_iff_getElem.1 HASC.out k j hkr hj (by omega))
        have hik : i < k0 := by rw [HK.out]; exact hi
        obtain ⟨b, off, hA, hbl, hcell⟩ := (Sl.of_own HO2.out).num hi
        have hyi : ys[i] = 1 := by have := hy; simp [hi] at this; exact this
        rw [hyi] at hcell
        have hcw := (HBW.out.cell (p := ⟨b, off + i, none⟩) hbl).trans hcell
        have hcw2 := (HB.out.cell (p := ⟨b, off + i, none⟩) (World.block_lt_of_cell? W _ hcw)).trans hcw
        have HCW := hid (And.intro hcw2 (World.block_lt_of_cell? wr _ hcw2))
        subst hA
        clear hcell hcw hcw2 hy hyi he hi
        gi_wp2_with fail
        clear hcn
        refine ⟨trivial, callsIn_wide.2 (HC.out.mono ?_)⟩
        rintro e w5 ⟨rfl, hb5⟩
        have hc5 := (hb5.cell (p := ⟨b, off + i, none⟩) HCW.out.2).trans HCW.out.1
        have HB5 := hid (below_go HB.out hb5)
        clear hb5
        have h1 : ¬ ((i : Int) + 1 ≤ lv) := by omega
        have h2 : ¬ ((i : Int) + 1 > (k0 : Int)) := by omega
        have h3 : wrap64 ((i : Int) + 1 - 1) = (i : Int) := by unfold wrap64; omega
        gi_wp2_with fail
        go_roundw
        case rel => exact ⟨k + 1, (i : Int) + 1, by omega, rfl, by go_num, HN.out, HB5.out⟩
        case measure => simp [intOf]; omega
      · obtain rfl : k = m := by omega
        gi_wp2_with fail
        have HC := hid (HP.out 5 wr (below_go HBW.out HB.out))
        obtain ⟨⟨r1, r2⟩, hr⟩ : ∃ r, r = pickL ys 5 := ⟨_, rfl⟩
        rw [← hr] at HC HSM
        have hr2 : r2 = decide (0 < k) := HSM.out
        unfold retP at HC
        clear hr
        refine ⟨trivial, callsIn_wide.2 (HC.out.mono ?_)⟩
        rintro e w5 ⟨rfl, hb5⟩
        have HB5 := hid (below_go HB.out hb5)
        clear hb5
        gi_wp2_with fail
        refine ⟨trivial, callsIn_wide.2 ((awake_any _).mono ?_)⟩
        rintro e w6 ⟨rfl, hb6⟩
        have HB6 := hid (below_go HB5.out hb6)
        have hcn6 := (HB6.out.cell (p := ⟨w2.heap.size, 0, none⟩) (World.block_lt_of_cell? W _ HCN.out)).trans HCN.out
        have hK6 := (HB6.out.block D (Array.getElem?_eq_some_iff.1 HKD.out).1).trans HKD.out
        clear hb6
        gi_wp2_with fail
        have HBE := below_go HB2.out (below_go HBW.out HB6.out)
        refine ⟨by simp, .inl ⟨_, _, rfl, run_takeDeferred hK6, ?_⟩⟩
        exact ⟨_, results_tmp rfl _ _ _, rfl, HBE.trans (belowK_b (w := w) (Nat.le_refl _) w6 D _ _ (by have := HB2.out.size; omega) hK6 rfl rfl)⟩
  case stop =>
    rintro D c pre W _ _ h _
    exact h.elim
theorem each_walk (A : Option Addr) (n c : Nat) (l : List UInt8) (w : World) (hn : l.length = n) (hs : Sl w w.heap.size A (bys l)) :
    Calls Try.prog 5 #[.slice A n c] w fun e w' => e = .returned (.bool true) ∧ Below w.heap.size w w' :=
  (callsIn_wide (n := 3)).1 (each_in A n c l w hn hs)
end Go.Proofs.Ytcdpfpehjgppcaa
