/-
  InstrTable walked.
-/
import Derived.Test.YtgmepgbdbkamlaaLawI2
namespace Go.Proofs.Ytgmepgbdbkamlaa
open Go.RowKit

theorem below_on {B : Nat} {a w1 w2 : World} (h : Below B a w1) (hB : B ≤ a.heap.size) (h2 : Below w1.heap.size w1 w2) : Below B a w2 := h.trans (h2.mono (Nat.le_trans hB h.size))

set_option maxHeartbeats 4000000 in
set_option maxRecDepth 100000 in
theorem table_walk (a b : Int) (w : World) :
    Calls Try.prog 7 #[.int .i64 a, .int .i8 b] w fun e w' => e = .returned (.bool true) ∧ Below w.heap.size w w' := by
  obtain ⟨y, hy⟩ : ∃ y, y = wrap64 (b.tmod 30) := ⟨_, rfl⟩
  have Y := hid hy
  clear hy
  go_enter Try.func7, Try.ntmps7
  go_wp2_with fail
  simp only [← Y.out]
  have C0 := fun (wr : World) (h : Below (w.heap.size + 1) (w.alloc (.cells #[.int .i64 a, .int .i64 y] 3)) wr) => hid (show wr.cell? ⟨w.heap.size, 0, none⟩ = some (.int .i64 a) by rw [h.cell (p := ⟨w.heap.size, 0, none⟩) (by simp)]; simp [go_sem])
  have C1 := fun (wr : World) (h : Below (w.heap.size + 1) (w.alloc (.cells #[.int .i64 a, .int .i64 y] 3)) wr) => hid (show wr.cell? ⟨w.heap.size, 1, none⟩ = some (.int .i64 y) by rw [h.cell (p := ⟨w.heap.size, 1, none⟩) (by simp)]; simp [go_sem])
  have CC := hid (And.intro C0 C1)
  clear C0 C1
  go_loopw [23] (fun i wr => ∃ k : Nat, k ≤ 2 ∧ i = .int .i64 k ∧ Below (w.heap.size + 1) (w.alloc (.cells #[.int .i64 a, .int .i64 y] 3)) wr) (fun i _ => 2 - (intOf i).toNat)
  case atStart => exact ⟨0, by omega, rfl, Below.refl _ _⟩
  case round =>
    obtain ⟨k, hk, rfl, hb⟩ := hrel
    have HB := hid hb
    clear hb
    by_cases hlt : k < 2
    · obtain ⟨z, hz⟩ : ∃ z, wr.cell? ⟨w.heap.size, k, none⟩ = some (.int .i64 z) := by
        rcases (show k = 0 ∨ k = 1 by omega) with rfl | rfl
        · exact ⟨_, (CC.out.1 wr HB.out).out⟩
        · exact ⟨_, (CC.out.2 wr HB.out).out⟩
      go_wp2_with fail
      refine (eff_any _ _).mono ?_
      rintro e w1 ⟨rfl, rfl⟩
      go_wp2_with fail
      refine (reff_any _ _).mono ?_
      rintro e w1 ⟨rfl, rfl⟩
      go_wp2_with fail
      refine (ar_any _ _).mono ?_
      rintro e w1 ⟨rfl, rfl⟩
      clear hz
      go_wp2_with fail
      refine (rar_any _ _).mono ?_
      rintro e w1 ⟨rfl, hb1⟩
      have HB1 := hid (below_on HB.out (by simp) hb1)
      clear hb1
      go_wp2_with fail
      refine (has_any _ _).mono ?_
      rintro e w2 ⟨rfl, rfl⟩
      go_wp2_with fail
      refine (rhas_any _ _).mono ?_
      rintro e w2 ⟨rfl, rfl⟩
      go_wp2_with fail
      refine (cost_any _ _).mono ?_
      rintro e w2 ⟨rfl, rfl⟩
      go_wp2_with fail
      refine (rcost_any _ _).mono ?_
      rintro e w2 ⟨rfl, rfl⟩
      go_wp2_with fail
      refine (ends_any _ _).mono ?_
      rintro e w2 ⟨rfl, rfl⟩
      go_wp2_with fail
      refine (rends_any _ _).mono ?_
      rintro e w2 ⟨rfl, rfl⟩
      go_wp2_with fail
      refine (name_any _ _).mono ?_
      rintro e w2 ⟨rfl, hb2⟩
      have HB2 := hid (below_on HB1.out (by simp) hb2)
      clear hb2
      go_wp2_with fail
      refine (rname_any _ _).mono ?_
      rintro e w3 ⟨rfl, hb3⟩
      have HB3 := hid (below_on HB2.out (by simp) hb3)
      clear hb3
      go_wp2
      go_roundw
      case rel => exact ⟨k + 1, by omega, by go_num, HB3.out⟩
      case measure => simp [intOf]; omega
    · obtain rfl : k = 2 := by omega
      go_wp2_with fail
      refine (awake_any _).mono ?_
      rintro e w1 ⟨rfl, hb1⟩
      go_wp2
      go_ret
      refine ⟨rfl, ?_⟩
      have h1 := below_on HB.out (by simp) hb1
      exact (below_new w _ _).trans (h1.mono (by simp))
end Go.Proofs.Ytgmepgbdbkamlaa
