/-
  InstrNames walked.
-/
import Derived.Test.YtgmepgbdbkamlaaLawI2
namespace Go.Proofs.Ytgmepgbdbkamlaa
open Go.RowKit

theorem names_apart : ∀ i : Fin 26, ∀ j : Fin 26, 1 ≤ i.val → (namesB.getD i.val ⟨#[]⟩).toList = (namesB.getD j.val ⟨#[]⟩).toList → i = j := by decide +kernel
theorem knownS_iff (x : Int) : knownS x = true ↔ 1 ≤ x ∧ x ≤ 25 := by
  constructor
  · intro h
    by_cases hx : 1 ≤ x ∧ x ≤ 25
    · exact hx
    · rw [known_out x (by omega)] at h; cases h
  · exact known_in x
theorem nameS_eq (x y : Int) (h : knownS x = true) (he : (nameS x).toList = (nameS y).toList) : x = y := by
  have hx := (knownS_iff x).1 h
  by_cases hy : 1 ≤ y ∧ y ≤ 25
  · unfold nameS at he
    rw [if_pos hx, if_pos hy] at he
    have := congrArg Fin.val (names_apart ⟨x.toNat, by omega⟩ ⟨y.toNat, by omega⟩ (by simp; omega) he)
    simp at this
    omega
  · rw [nameS_out y (by omega)] at he
    unfold nameS at he
    rw [if_pos hx] at he
    have := congrArg Fin.val (names_apart ⟨x.toNat, by omega⟩ ⟨0, by omega⟩ (by simp; omega) he)
    simp at this
    omega
theorem nameS_empty (x : Int) : (nameS x).toList.isEmpty = !knownS x := by
  cases h : knownS x
  · have : ¬ (1 ≤ x ∧ x ≤ 25) := fun h' => by rw [known_in x h'] at h; cases h
    rw [nameS_out x (by omega)]
    decide +kernel
  · cases he : (nameS x).toList with
    | nil =>
      have := nameS_eq x 0 h (by rw [he]; decide +kernel)
      subst this
      exact absurd h (by decide)
    | cons a l => rfl
theorem cost_pos (x : Int) : decide (0 < costS x) = knownS x := by
  rcases cases27 x with h | rfl | rfl | rfl | rfl | rfl | rfl | rfl | rfl | rfl | rfl | rfl | rfl | rfl | rfl | rfl | rfl | rfl | rfl | rfl | rfl | rfl | rfl | rfl | rfl | rfl
  · rw [known_out x h, show costS x = 0 from tab_out _ _ x h]; rfl
  all_goals decide
theorem insErr_22 (x : Int) : (insErr x 0 == 22) = !knownS x := by
  unfold insErr
  cases knownS x
  · rfl
  · rw [if_neg (by simp), if_neg (by simp)]; rfl

set_option maxHeartbeats 1000000 in
theorem names_walk (a b : Int) (w : World) :
    Calls Try.prog 4 #[.int .i8 a, .int .i8 b] w fun e w' => e = .returned (.bool true) ∧ Below w.heap.size w w' := by
  obtain ⟨x, hx⟩ : ∃ x, x = wrap64 (a.tmod 30) := ⟨_, rfl⟩
  obtain ⟨y, hy⟩ : ∃ y, y = wrap64 (b.tmod 30) := ⟨_, rfl⟩
  have X := hid hx
  have Y := hid hy
  clear hx hy
  have E1 := hid (nameS_empty x)
  have E2 := hid (cost_pos x)
  have E3 := hid (insErr_22 x)
  have E4 := hid (nameS_eq x y)
  go_enter Try.func4, Try.ntmps4
  go_wp2_with fail
  simp only [← X.out, ← Y.out]
  refine (name_any _ _).mono ?_
  rintro e w1 ⟨rfl, hb1⟩
  have HB1 := hid hb1
  clear hb1
  go_wp2_with fail
  refine (name_any _ _).mono ?_
  rintro e w2 ⟨rfl, hb2⟩
  have HB2 := hid (below_go HB1.out hb2)
  clear hb2
  go_wp2_with fail
  refine (awake_any _).mono ?_
  rintro e w3 ⟨rfl, hb3⟩
  have HB3 := hid (below_go HB2.out hb3)
  clear hb3
  have e1 := E1.out
  have e2 := E2.out
  have e3 := E3.out
  cases hk : knownS x
  · rw [hk] at e1 e2 e3
    simp only [Bool.not_false] at e1 e3
    have F2 := hid e2
    clear e2
    cases hq : ((nameS x).toList == (nameS y).toList)
    · go_wp2_with fail
      refine (icheck_any _ _ _).mono ?_
      rintro e w4 ⟨rfl, hb4⟩
      have HB4 := hid (below_go HB3.out hb4)
      clear hb4
      go_wp2_with fail
      refine (cost_any _ _).mono ?_
      rintro e w5 ⟨rfl, rfl⟩
      have e2 := F2.out
      go_wp2
      go_ret
      exact ⟨rfl, HB4.out⟩
    · go_wp2_with fail
      refine (icheck_any _ _ _).mono ?_
      rintro e w4 ⟨rfl, hb4⟩
      have HB4 := hid (below_go HB3.out hb4)
      clear hb4
      go_wp2_with fail
      refine (cost_any _ _).mono ?_
      rintro e w5 ⟨rfl, rfl⟩
      have e2 := F2.out
      go_wp2
      go_ret
      exact ⟨rfl, HB4.out⟩
  · have E4' := E4.out hk
    rw [hk] at e1 e2 e3
    simp only [Bool.not_true] at e1 e3
    have F2 := hid e2
    clear e2
    cases hq : ((nameS x).toList == (nameS y).toList)
    · clear E4'
      go_wp2_with fail
      refine (icheck_any _ _ _).mono ?_
      rintro e w4 ⟨rfl, hb4⟩
      have HB4 := hid (below_go HB3.out hb4)
      clear hb4
      go_wp2_with fail
      refine (cost_any _ _).mono ?_
      rintro e w5 ⟨rfl, rfl⟩
      have e2 := F2.out
      go_wp2
      go_ret
      exact ⟨rfl, HB4.out⟩
    · have hxy := E4' (by simpa using hq)
      clear E4'
      subst hxy
      clear hq
      go_wp2_with fail
      refine (icheck_any _ _ _).mono ?_
      rintro e w4 ⟨rfl, hb4⟩
      have HB4 := hid (below_go HB3.out hb4)
      clear hb4
      go_wp2_with fail
      refine (cost_any _ _).mono ?_
      rintro e w5 ⟨rfl, rfl⟩
      have e2 := F2.out
      go_wp2
      go_ret
      exact ⟨rfl, HB4.out⟩
end Go.Proofs.Ytgmepgbdbkamlaa
