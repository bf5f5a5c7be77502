/-
  InstrEncode walked.
-/
import Derived.Test.YtgmepgbdbkamlaaLawI4
import Derived.OneCell
import Derived.Deep.RegionHeld3
namespace Go.Proofs.Ytgmepgbdbkamlaa
open Go.RowKit

/-- The encoding of an instruction that is right; else nothing. -/
def encX (o : Int) (a : Nat) : List UInt8 := if insErr o a = 0 then encI o.toNat a else []
def OwnE (w : World) (l : List UInt8) (err : Int) (e : Ending) (w' : World) : Prop :=
  ∃ A c, e = .returned (.tuple #[.slice A l.length c, .int .i64 err]) ∧ w'.ownsRow w.heap.size 5 1 (.slice A l.length c) l.length (bys l) ∧ Below w.heap.size w w'
theorem insErr_known {o a : Int} (h : insErr o a = 0) : 1 ≤ o ∧ o ≤ 25 := by
  by_cases hk : 1 ≤ o ∧ o ≤ 25
  · exact hk
  · unfold insErr at h
    rw [known_out o (by omega)] at h
    simp at h
theorem iencode_any (o : Int) (a : Nat) (w : World) (ha : a < 18446744073709551616) : Calls Try.prog 8 #[insv o a] w (OwnE w (encX o a) (insErr o a)) := by
  unfold encX OwnE
  by_cases h : insErr o a = 0
  · simp only [h, ↓reduceIte]
    obtain ⟨h1, h2⟩ := insErr_known h
    obtain ⟨j, rfl⟩ := Int.eq_ofNat_of_zero_le (show 0 ≤ o by omega)
    exact iencode_yes j a w (by omega) (by omega) h ha
  · simp only [h, ↓reduceIte]
    refine (iencode_no o a w h).mono ?_
    rintro e w1 ⟨rfl, hb⟩
    exact ⟨none, 0, rfl, World.ownsRow_nil _ _ _ _, hb⟩
theorem riencode_any (o : Int) (a : Nat) (w : World) (ha : a < 18446744073709551616) : Calls Try.prog 9 #[insv o a] w (OwnE w (encX o a) (insErr o a)) := by
  unfold encX OwnE
  by_cases h : insErr o a = 0
  · simp only [h, ↓reduceIte]
    obtain ⟨h1, h2⟩ := insErr_known h
    obtain ⟨j, rfl⟩ := Int.eq_ofNat_of_zero_le (show 0 ≤ o by omega)
    exact riencode_yes j a w (by omega) (by omega) h ha
  · simp only [h, ↓reduceIte]
    refine (riencode_no o a w h).mono ?_
    rintro e w1 ⟨rfl, hb⟩
    exact ⟨none, 0, rfl, World.ownsRow_nil _ _ _ _, hb⟩

/-- A copy of the instruction, in its own block. -/
def TwoAt (g : Nat) (z : Int) (u : Nat) (w : World) : Prop := w.cell? ⟨g, 0, none⟩ = some (.int .i64 z) ∧ w.cell? ⟨g, 1, none⟩ = some (.int .u64 (u : Int)) ∧ g < w.heap.size
theorem two_keep {g : Nat} {z : Int} {u : Nat} {w w' : World} (h : TwoAt g z u w) (hb : Below w.heap.size w w') : TwoAt g z u w' :=
  ⟨(hb.cell (p := ⟨g, 0, none⟩) h.2.2).trans h.1, (hb.cell (p := ⟨g, 1, none⟩) h.2.2).trans h.2.1, Nat.lt_of_lt_of_le h.2.2 hb.size⟩

set_option maxRecDepth 100000 in
set_option maxHeartbeats 2000000 in
theorem iencode_walk (o b : Int) (a x : Nat) (w : World) (ha : a < 18446744073709551616) (hx : x < 18446744073709551616) :
    Calls Try.prog 3 #[insv o a, .int .i8 b, .int .u64 x] w fun e w' => e = .returned (.bool true) ∧ Below w.heap.size w w' := by
  unfold insv
  obtain ⟨y, hy⟩ : ∃ y, y = wrap64 (b.tmod 30) := ⟨_, rfl⟩
  have Y := hid hy
  have HA := hid ha
  have HX := hid hx
  clear hy ha hx
  obtain ⟨V, hV⟩ : ∃ V, V = ((w.alloc (.cells #[.int .i64 o, .int .u64 a] 24)).alloc (.cells #[.int .i64 o, .int .u64 a, .int .i64 y, .int .u64 x, .int .i64 y, .int .u64 0] 24)) := ⟨_, rfl⟩
  have HV := hid hV
  have HVS := hid (show V.heap.size = w.heap.size + 2 by rw [hV]; simp)
  have HVB := hid (show Below w.heap.size w V by rw [hV]; exact below_go (below_new w _ _) (below_new _ _ _))
  have HC := hid (show ∀ k : Nat, k < 3 → ∃ (z : Int) (u : Nat), V.cell? ⟨w.heap.size + 1, k * 2, none⟩ = some (.int .i64 z) ∧ V.cell? ⟨w.heap.size + 1, k * 2 + 1, none⟩ = some (.int .u64 u) ∧ u < 18446744073709551616 by
    intro k hk
    rw [hV]
    rcases (show k = 0 ∨ k = 1 ∨ k = 2 by omega) with rfl | rfl | rfl
    · exact ⟨o, a, by simp [go_sem], by simp [go_sem], HA.out⟩
    · exact ⟨y, x, by simp [go_sem], by simp [go_sem], HX.out⟩
    · exact ⟨y, 0, by simp [go_sem], by simp [go_sem], by omega⟩)
  clear hV
  go_enter Try.func3, Try.ntmps3
  go_wp2_with fail
  simp only [← Y.out, ← HV.out]
  go_loopw [25] (fun i wr => ∃ k : Nat, k ≤ 3 ∧ i = .int .i64 k ∧ Below V.heap.size V wr) (fun i _ => 3 - (intOf i).toNat)
  case atStart => exact ⟨0, by omega, rfl, Below.refl _ _⟩
  case round =>
    obtain ⟨k, hk, rfl, hb⟩ := hrel
    by_cases hlt : k < 3
    · obtain ⟨z, u, hz, hu, hlu⟩ := HC.out k hlt
      have hz' := (hb.cell (p := ⟨w.heap.size + 1, k * 2, none⟩) (by rw [HVS.out]; simp)).trans hz
      have hu' := (hb.cell (p := ⟨w.heap.size + 1, k * 2 + 1, none⟩) (by rw [HVS.out]; simp)).trans hu
      have HB := hid hb
      have HU := hid hlu
      clear hb hz hu hlu
      have HE := hid (fun w => iencode_any z u w HU.out)
      have HR := hid (fun w => riencode_any z u w HU.out)
      unfold insv at HE HR
      obtain ⟨l, hl⟩ : ∃ l, l = encX z u := ⟨_, rfl⟩
      rw [← hl] at HE HR
      clear hl
      have HG0 := hid (show TwoAt wr.heap.size z u (wr.alloc (.cells #[.int .i64 z, .int .u64 u] 24)) from ⟨by simp [go_sem], by simp [go_sem], by simp⟩)
      go_wp2_with fail
      clear hz' hu'
      refine (HE.out _).mono ?_
      rintro e w1 ⟨A1, c1, rfl, ho1, hb1⟩
      have HX1 := hid ho1
      have HB1 := hid (below_go HB.out (below_go (below_new wr _ _) hb1))
      have HG1 := hid (two_keep HG0.out hb1)
      have q0 := HG1.out.1
      have q1 := HG1.out.2.1
      clear ho1 hb1
      go_wp2_with fail
      clear q0 q1
      refine (HR.out _).mono ?_
      rintro e w2 ⟨A2, c2, rfl, ho2, hb2⟩
      have HY2 := hid ho2
      have HX2 := hid (own_below HX1.out hb2)
      have HB2 := hid (below_go HB1.out hb2)
      have HG2 := hid (two_keep HG1.out hb2)
      clear ho2 hb2 HE HR HG0 HG1 HX1
      unfold insv at *
      go_wp2_with fail
      refine wp_region_noPanic ?_
      refine wp_region_held_drew (S := (fun w' => (convert 27 9 (.slice A1 l.length c1)).run Try.prog w' = .ok (.string (strOf l)) w' ∧ (convert 27 9 (.slice A2 l.length c2)).run Try.prog w' = .ok (.string (strOf l)) w' ∧ w'.cell? ⟨wr.heap.size, 0, none⟩ = some (.int .i64 z) ∧ w'.cell? ⟨wr.heap.size, 1, none⟩ = some (.int .u64 (u : Int)))) (by kernel_rfl) ⟨str_own HX2.out, str_own HY2.out, HG2.out.1, HG2.out.2.1⟩ (fun hH0 => ?_)
      refine wpAnyH_take (i := 0) (v := ?_) rfl (by kernel_rfl) (by kernel_rfl) (by kernel_rfl) (fun _ _ _ h => h) (Or.inl ⟨by rfl, ?_⟩) hH0 ?_
      rotate_left
      · (intro w hSw; (try dsimp only at hSw); go_simp; try (with_reducible rfl))
      try simp only [Act.put, List.getElem_toArray, List.getElem_cons_zero, List.setIfInBounds_toArray, List.set_cons_zero, List.set_cons_succ]
      refine wpAnyH_take (i := 1) (v := ?_) rfl (by kernel_rfl) (by kernel_rfl) (by kernel_rfl) (fun _ _ _ h => h) (Or.inl ⟨by rfl, ?_⟩) hH0 ?_
      rotate_left
      · (intro w hSw; (try dsimp only at hSw); go_simp; try (with_reducible rfl))
      try simp only [Act.put, List.getElem_toArray, List.getElem_cons_zero, List.getElem_cons_succ, List.setIfInBounds_toArray, List.set_cons_zero, List.set_cons_succ]
      refine wpAnyH_take (i := 2) (v := ?_) rfl (by kernel_rfl) (by kernel_rfl) (by kernel_rfl) (fun _ _ _ h => h) (Or.inl ⟨by rfl, ?_⟩) hH0 ?_
      rotate_left
      · (intro w hSw; (try dsimp only at hSw); go_simp; try (with_reducible rfl))
      try simp only [Act.put, List.getElem_toArray, List.getElem_cons_zero, List.getElem_cons_succ, List.setIfInBounds_toArray, List.set_cons_zero, List.set_cons_succ]
      refine wpAnyH_take (i := 3) (v := ?_) rfl (by kernel_rfl) (by kernel_rfl) (by kernel_rfl) (fun _ _ _ h => h) (Or.inl ⟨by rfl, ?_⟩) hH0 ?_
      rotate_left
      · (intro w hSw; (try dsimp only at hSw); go_simp; try (with_reducible rfl))
      try simp only [Act.put, List.getElem_toArray, List.getElem_cons_zero, List.getElem_cons_succ, List.setIfInBounds_toArray, List.set_cons_zero, List.set_cons_succ]
      refine wpAnyH_take (i := 4) (v := ?_) rfl (by kernel_rfl) (by kernel_rfl) (by kernel_rfl) (fun _ _ _ h => h) (Or.inl ⟨by rfl, ?_⟩) hH0 ?_
      rotate_left
      · (intro w hSw; (try dsimp only at hSw); go_simp; try (with_reducible rfl))
      try simp only [Act.put, List.getElem_toArray, List.getElem_cons_zero, List.getElem_cons_succ, List.setIfInBounds_toArray, List.set_cons_zero, List.set_cons_succ]
      refine wpAnyH_take (i := 5) (v := ?_) rfl (by kernel_rfl) (by kernel_rfl) (by kernel_rfl) (fun _ _ _ h => h) (Or.inl ⟨by rfl, ?_⟩) hH0 ?_
      rotate_left
      · (intro w hSw; (try dsimp only at hSw); go_simp; try (with_reducible rfl))
      try simp only [Act.put, List.getElem_toArray, List.getElem_cons_zero, List.getElem_cons_succ, List.setIfInBounds_toArray, List.set_cons_zero, List.set_cons_succ]
      refine wpAnyH_take (i := 6) (v := ?_) rfl (by kernel_rfl) (by kernel_rfl) (by kernel_rfl) (fun _ _ _ h => h) (Or.inl ⟨by rfl, ?_⟩) hH0 ?_
      rotate_left
      · (intro w hSw; (try dsimp only at hSw); go_simp; try (with_reducible rfl))
      try simp only [Act.put, List.getElem_toArray, List.getElem_cons_zero, List.getElem_cons_succ, List.setIfInBounds_toArray, List.set_cons_zero, List.set_cons_succ]
      refine wpAnyH_take (i := 7) (v := ?_) rfl (by kernel_rfl) (by kernel_rfl) (by kernel_rfl) (fun _ _ _ h => h) (Or.inl ⟨by rfl, ?_⟩) hH0 ?_
      rotate_left
      · (intro w hSw; (try dsimp only at hSw); go_simp; try (with_reducible rfl))
      try simp only [Act.put, List.getElem_toArray, List.getElem_cons_zero, List.getElem_cons_succ, List.setIfInBounds_toArray, List.set_cons_zero, List.set_cons_succ]
      refine wpAnyH_take (i := 8) (v := ?_) rfl (by kernel_rfl) (by kernel_rfl) (by kernel_rfl) (fun _ _ _ h => h) (Or.inl ⟨by rfl, ?_⟩) hH0 ?_
      rotate_left
      · (intro w hSw; (try dsimp only at hSw); go_simp; try (with_reducible rfl))
      try simp only [Act.put, List.getElem_toArray, List.getElem_cons_zero, List.getElem_cons_succ, List.setIfInBounds_toArray, List.set_cons_zero, List.set_cons_succ]
      refine wpAnyH_take (i := 9) (v := ?_) rfl (by kernel_rfl) (by kernel_rfl) (by kernel_rfl) (fun _ _ _ h => h) (Or.inl ⟨by rfl, ?_⟩) hH0 ?_
      rotate_left
      · (intro w hSw; (try dsimp only at hSw); go_simp; try (with_reducible rfl))
      try simp only [Act.put, List.getElem_toArray, List.getElem_cons_zero, List.getElem_cons_succ, List.setIfInBounds_toArray, List.set_cons_zero, List.set_cons_succ]
      refine wpAnyH_take (i := 10) (v := ?_) rfl (by kernel_rfl) (by kernel_rfl) (by kernel_rfl) (fun _ _ _ h => h) (Or.inl ⟨by rfl, ?_⟩) hH0 ?_
      rotate_left
      · (intro w hSw; (try dsimp only at hSw); go_simp; try (with_reducible rfl))
      try simp only [Act.put, List.getElem_toArray, List.getElem_cons_zero, List.getElem_cons_succ, List.setIfInBounds_toArray, List.set_cons_zero, List.set_cons_succ]
      refine wpAnyH_take (i := 11) (v := ?_) rfl (by kernel_rfl) (by kernel_rfl) (by kernel_rfl) (fun _ _ _ h => h) (Or.inl ⟨by rfl, ?_⟩) hH0 ?_
      rotate_left
      · (intro w hSw; (try dsimp only at hSw); go_simp; try (with_reducible rfl))
      try simp only [Act.put, List.getElem_toArray, List.getElem_cons_zero, List.getElem_cons_succ, List.setIfInBounds_toArray, List.set_cons_zero, List.set_cons_succ]
      refine wpAnyH_take (i := 13) (v := ?_) rfl (by kernel_rfl) (by kernel_rfl) (by kernel_rfl) (fun _ _ _ h => h) (Or.inl ⟨by rfl, ?_⟩) hH0 ?_
      rotate_left
      · (intro w hSw; (try dsimp only at hSw); go_simp; try (with_reducible rfl))
      try simp only [Act.put, List.getElem_toArray, List.getElem_cons_zero, List.getElem_cons_succ, List.setIfInBounds_toArray, List.set_cons_zero, List.set_cons_succ]
      refine wpAnyH_ready (rs := [12]) (by kernel_rfl) (by simp) ?_
      refine AllReadyH.cons rfl (fun K hK => ?_) AllReadyH.nil
      simp only [List.getElem_toArray, List.getElem_cons_zero, List.getElem_cons_succ]
      go_simp
      refine (icheck_any z u _).mono ?_
      rintro e w3 ⟨rfl, hb3'⟩
      have HB3 := hid (below_go HB2.out (undrew hb3'))
      have HX3 := hid (own_below HX2.out (undrew hb3'))
      have HY3 := hid (own_below HY2.out (undrew hb3'))
      have HZ3 := hid (HB3.out.size)
      have HG3 := hid (two_keep HG2.out (undrew hb3'))
      clear hb3'
      go_wp2_with fail
      refine hK.out _ _ ⟨str_own HX3.out, str_own HY3.out, HG3.out.1, HG3.out.2.1⟩ (fun hH1 => ?_)
      clear hK K hH0
      try simp only [Act.put, List.setIfInBounds_toArray, List.set_cons_zero, List.set_cons_succ]
      refine wpAnyH_ready (rs := [14]) (by kernel_rfl) (by simp) ?_
      refine AllReadyH.cons rfl (fun K hK => ?_) AllReadyH.nil
      simp only [List.getElem_toArray, List.getElem_cons_zero, List.getElem_cons_succ]
      go_simp
      refine (richeck_any z u _).mono ?_
      rintro e w4 ⟨rfl, hb4'⟩
      have HB4 := hid (below_go HB3.out hb4')
      have HX4 := hid (own_below HX3.out hb4')
      have HY4 := hid (own_below HY3.out hb4')
      have HZ4 := hid (HB4.out.size)
      have HG4 := hid (two_keep HG3.out hb4')
      clear hb4'
      go_wp2_with fail
      refine hK.out _ _ ⟨str_own HX4.out, str_own HY4.out, HG4.out.1, HG4.out.2.1⟩ (fun hH2 => ?_)
      clear hK K hH1
      try simp only [Act.put, List.setIfInBounds_toArray, List.set_cons_zero, List.set_cons_succ]
      refine wpAnyH_take (i := 15) (v := ?_) rfl (by kernel_rfl) (by kernel_rfl) (by kernel_rfl) (fun _ _ _ h => h) (Or.inl ⟨by rfl, ?_⟩) hH2 ?_
      rotate_left
      · (intro w hSw; (try dsimp only at hSw); go_simp; try (with_reducible rfl))
      try simp only [Act.put, List.getElem_toArray, List.getElem_cons_zero, List.getElem_cons_succ, List.setIfInBounds_toArray, List.set_cons_zero, List.set_cons_succ]
      refine wpAnyH_take (i := 16) (v := ?_) rfl (by kernel_rfl) (by kernel_rfl) (by kernel_rfl) (fun _ _ _ h => h) (Or.inl ⟨by rfl, ?_⟩) hH2 ?_
      rotate_left
      · (intro w hSw; (try dsimp only at hSw); go_simp; try (with_reducible rfl))
      try simp only [Act.put, List.getElem_toArray, List.getElem_cons_zero, List.getElem_cons_succ, List.setIfInBounds_toArray, List.set_cons_zero, List.set_cons_succ]
      refine wpAnyH_done (by kernel_rfl) ?_ _
      refine NoPanic.normal ?_
      go_wp2
      go_roundw
      case rel => exact ⟨k + 1, by omega, by go_num, HB4.out⟩
      case measure => simp [intOf]; omega
    · obtain rfl : k = 3 := by omega
      have HB := hid hb
      clear hb
      go_wp2_with fail
      refine (awake_any _).mono ?_
      rintro e w1 ⟨rfl, hb1⟩
      have HB1 := hid (below_go HVB.out (below_go HB.out hb1))
      clear hb1
      go_wp2
      go_ret
      exact ⟨rfl, HB1.out⟩
end Go.Proofs.Ytgmepgbdbkamlaa
