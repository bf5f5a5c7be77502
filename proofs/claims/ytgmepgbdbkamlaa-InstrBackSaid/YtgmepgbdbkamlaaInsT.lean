/-
  The tables of the instructions and of the host calls: known, HasArg, Effect, Arity, Cost, Ends, in the package and in the reference.
-/
import Derived.Test.YtgmepgbdbkamlaaUse
import Derived.Test.YtgmepgbdbkamlaaProg
import Derived.WalkLawsBesides
import Derived.WalkSpells
import Derived.Outline
namespace Go.Proofs.Ytgmepgbdbkamlaa
open Go.RowKit

/-- An entry of a table of 25, and what stands outside it. -/
def tab {α : Type} (d : α) (l : List α) (k : Int) : α := if 1 ≤ k ∧ k ≤ 25 then l.getD (k.toNat - 1) d else d
theorem tab_out {α : Type} (d : α) (l : List α) (k : Int) (h : k < 1 ∨ 25 < k) : tab d l k = d := by unfold tab; rw [if_neg]; omega
theorem cases27 (k : Int) : (k < 1 ∨ 25 < k) ∨ k = 1 ∨ k = 2 ∨ k = 3 ∨ k = 4 ∨ k = 5 ∨ k = 6 ∨ k = 7 ∨ k = 8 ∨ k = 9 ∨ k = 10 ∨ k = 11 ∨ k = 12 ∨ k = 13 ∨ k = 14 ∨ k = 15 ∨ k = 16 ∨ k = 17 ∨ k = 18 ∨ k = 19 ∨ k = 20 ∨ k = 21 ∨ k = 22 ∨ k = 23 ∨ k = 24 ∨ k = 25 := by omega

def knownS : Int → Bool := tab false [true, true, true, true, true, true, true, true, true, true, true, true, true, true, true, true, true, true, true, true, true, true, true, true, true]
def hasS : Int → Bool := tab false [true, true, true, false, false, false, false, false, false, false, false, false, false, false, false, false, false, false, true, true, true, false, true, false, false]
def eff1S : Int → Int := tab 0 [0, 0, 1, 1, 1, 2, 2, 2, 2, 2, 2, 2, 2, 2, 2, 2, 2, 1, 0, 1, 0, 0, 0, 0, 0]
def eff2S : Int → Int := tab 0 [1, 1, 0, 0, 2, 1, 1, 1, 1, 1, 1, 1, 1, 1, 1, 1, 1, 1, 0, 0, 0, 0, 0, 0, 0]
def eff3S : Int → Bool := tab false [true, true, true, true, true, true, true, true, true, true, true, true, true, true, true, true, true, true, true, true, false, false, false, true, true]
def ar1S : Int → Int := tab 0 [1, 1, 2, 3, 3, 4, 5, 2, 2, 2, 1, 0, 0, 0, 0, 0, 0, 0, 0, 0, 0, 0, 0, 0, 0]
def ar2S : Int → Bool := tab false [true, true, true, true, true, true, true, true, true, true, true, false, false, false, false, false, false, false, false, false, false, false, false, false, false]
def costS : Int → Int := tab 0 [1, 1, 1, 1, 1, 1, 1, 1, 1, 1, 1, 1, 1, 1, 1, 1, 1, 1, 1, 1, 2, 1, 8, 1, 1]
def endsS : Int → Bool := tab false [false, false, false, false, false, false, false, false, false, false, false, false, false, false, false, false, false, false, true, false, false, true, false, true, true]

set_option maxHeartbeats 4000000 in
theorem known_any (k : Int) (w : World) :
    Calls Try.prog 29 #[.int .i64 k] w fun e w' => e = .returned (.bool (knownS k)) ∧ w = w' := by
  rcases cases27 k with h | rfl | rfl | rfl | rfl | rfl | rfl | rfl | rfl | rfl | rfl | rfl | rfl | rfl | rfl | rfl | rfl | rfl | rfl | rfl | rfl | rfl | rfl | rfl | rfl | rfl
  · have t : knownS k = false := tab_out _ _ k h
    rw [t]; clear t
    rcases h with h | h
    · go_enter Try.func29, Try.ntmps29
      go_wp2
      go_ret
      exact ⟨by first | rfl | (simp; omega), rfl⟩
    · go_enter Try.func29, Try.ntmps29
      go_wp2
      go_ret
      exact ⟨by first | rfl | (simp; omega), rfl⟩
  all_goals (go_enter Try.func29, Try.ntmps29; go_wp2; go_ret; exact ⟨by first | rfl | (simp; omega), rfl⟩)

set_option maxHeartbeats 4000000 in
theorem has_any (k : Int) (w : World) :
    Calls Try.prog 22 #[.int .i64 k] w fun e w' => e = .returned (.bool (hasS k)) ∧ w = w' := by
  rcases cases27 k with h | rfl | rfl | rfl | rfl | rfl | rfl | rfl | rfl | rfl | rfl | rfl | rfl | rfl | rfl | rfl | rfl | rfl | rfl | rfl | rfl | rfl | rfl | rfl | rfl | rfl
  · have t : hasS k = false := tab_out _ _ k h
    rw [t]; clear t
    have e1 : (k == 1) = false := by simp; omega
    have e2 : (k == 2) = false := by simp; omega
    have e3 : (k == 3) = false := by simp; omega
    have e19 : (k == 19) = false := by simp; omega
    have e20 : (k == 20) = false := by simp; omega
    have e21 : (k == 21) = false := by simp; omega
    have e23 : (k == 23) = false := by simp; omega
    rcases h with h | h
    · go_enter Try.func22, Try.ntmps22
      go_wp2
      go_ret
      exact ⟨by first | rfl | (simp; omega), rfl⟩
    · go_enter Try.func22, Try.ntmps22
      go_wp2
      go_ret
      exact ⟨by first | rfl | (simp; omega), rfl⟩
  all_goals (go_enter Try.func22, Try.ntmps22; go_wp2; go_ret; exact ⟨by first | rfl | (simp; omega), rfl⟩)

set_option maxHeartbeats 4000000 in
theorem eff_any (k : Int) (w : World) :
    Calls Try.prog 18 #[.int .i64 k] w fun e w' => e = .returned (.tuple #[.int .i64 (eff1S k), .int .i64 (eff2S k), .bool (eff3S k)]) ∧ w = w' := by
  rcases cases27 k with h | rfl | rfl | rfl | rfl | rfl | rfl | rfl | rfl | rfl | rfl | rfl | rfl | rfl | rfl | rfl | rfl | rfl | rfl | rfl | rfl | rfl | rfl | rfl | rfl | rfl
  · have t : eff1S k = 0 ∧ eff2S k = 0 ∧ eff3S k = false := ⟨tab_out _ _ k h, tab_out _ _ k h, tab_out _ _ k h⟩
    obtain ⟨t0, t1, t2⟩ := t
    rw [t0, t1, t2]; clear t0 t1 t2
    have e1 : (k == 1) = false := by simp; omega
    have e2 : (k == 2) = false := by simp; omega
    have e3 : (k == 3) = false := by simp; omega
    have e4 : (k == 4) = false := by simp; omega
    have e5 : (k == 5) = false := by simp; omega
    have e18 : (k == 18) = false := by simp; omega
    have e19 : (k == 19) = false := by simp; omega
    have e20 : (k == 20) = false := by simp; omega
    have e24 : (k == 24) = false := by simp; omega
    have e25 : (k == 25) = false := by simp; omega
    rcases h with h | h
    · go_enter Try.func18, Try.ntmps18
      go_wp2
      go_ret3
      exact ⟨by first | rfl | (simp; omega), rfl⟩
    · go_enter Try.func18, Try.ntmps18
      go_wp2
      go_ret3
      exact ⟨by first | rfl | (simp; omega), rfl⟩
  all_goals (go_enter Try.func18, Try.ntmps18; go_wp2; go_ret3; exact ⟨by first | rfl | (simp; omega), rfl⟩)

set_option maxHeartbeats 4000000 in
theorem ar_any (k : Int) (w : World) :
    Calls Try.prog 20 #[.int .i64 k] w fun e w' => e = .returned (.tuple #[.int .i64 (ar1S k), .bool (ar2S k)]) ∧ w = w' := by
  rcases cases27 k with h | rfl | rfl | rfl | rfl | rfl | rfl | rfl | rfl | rfl | rfl | rfl | rfl | rfl | rfl | rfl | rfl | rfl | rfl | rfl | rfl | rfl | rfl | rfl | rfl | rfl
  · have t : ar1S k = 0 ∧ ar2S k = false := ⟨tab_out _ _ k h, tab_out _ _ k h⟩
    obtain ⟨t0, t1⟩ := t
    rw [t0, t1]; clear t0 t1
    have e1 : (k == 1) = false := by simp; omega
    have e2 : (k == 2) = false := by simp; omega
    have e3 : (k == 3) = false := by simp; omega
    have e4 : (k == 4) = false := by simp; omega
    have e5 : (k == 5) = false := by simp; omega
    have e6 : (k == 6) = false := by simp; omega
    have e7 : (k == 7) = false := by simp; omega
    have e8 : (k == 8) = false := by simp; omega
    have e9 : (k == 9) = false := by simp; omega
    have e10 : (k == 10) = false := by simp; omega
    have e11 : (k == 11) = false := by simp; omega
    rcases h with h | h
    · go_enter Try.func20, Try.ntmps20
      go_wp2
      go_ret2
      exact ⟨by first | rfl | (simp; omega), rfl⟩
    · go_enter Try.func20, Try.ntmps20
      go_wp2
      go_ret2
      exact ⟨by first | rfl | (simp; omega), rfl⟩
  all_goals (go_enter Try.func20, Try.ntmps20; go_wp2; go_ret2; exact ⟨by first | rfl | (simp; omega), rfl⟩)

set_option maxHeartbeats 4000000 in
theorem cost_any (k : Int) (w : World) :
    Calls Try.prog 14 #[.int .i64 k] w fun e w' => e = .returned (.int .i64 (costS k)) ∧ w = w' := by
  rcases cases27 k with h | rfl | rfl | rfl | rfl | rfl | rfl | rfl | rfl | rfl | rfl | rfl | rfl | rfl | rfl | rfl | rfl | rfl | rfl | rfl | rfl | rfl | rfl | rfl | rfl | rfl
  · have t : costS k = 0 := tab_out _ _ k h
    rw [t]; clear t
    have e21 : (k == 21) = false := by simp; omega
    have e23 : (k == 23) = false := by simp; omega
    have kf : knownS k = false := tab_out _ _ k h
    rcases h with h | h
    · go_enter Try.func14, Try.ntmps14
      go_wp2_with fail
      refine (known_any _ _).mono ?_
      rintro e w1 ⟨rfl, rfl⟩
      go_wp2
      go_ret
      exact ⟨by first | rfl | (simp; omega), rfl⟩
    · go_enter Try.func14, Try.ntmps14
      go_wp2_with fail
      refine (known_any _ _).mono ?_
      rintro e w1 ⟨rfl, rfl⟩
      go_wp2
      go_ret
      exact ⟨by first | rfl | (simp; omega), rfl⟩
  · go_enter Try.func14, Try.ntmps14
    go_wp2_with fail
    refine (known_any _ _).mono ?_
    rintro e w1 ⟨rfl, rfl⟩
    go_wp2
    go_ret
    exact ⟨by first | rfl | (simp; omega), rfl⟩
  · go_enter Try.func14, Try.ntmps14
    go_wp2_with fail
    refine (known_any _ _).mono ?_
    rintro e w1 ⟨rfl, rfl⟩
    go_wp2
    go_ret
    exact ⟨by first | rfl | (simp; omega), rfl⟩
  · go_enter Try.func14, Try.ntmps14
    go_wp2_with fail
    refine (known_any _ _).mono ?_
    rintro e w1 ⟨rfl, rfl⟩
    go_wp2
    go_ret
    exact ⟨by first | rfl | (simp; omega), rfl⟩
  · go_enter Try.func14, Try.ntmps14
    go_wp2_with fail
    refine (known_any _ _).mono ?_
    rintro e w1 ⟨rfl, rfl⟩
    go_wp2
    go_ret
    exact ⟨by first | rfl | (simp; omega), rfl⟩
  · go_enter Try.func14, Try.ntmps14
    go_wp2_with fail
    refine (known_any _ _).mono ?_
    rintro e w1 ⟨rfl, rfl⟩
    go_wp2
    go_ret
    exact ⟨by first | rfl | (simp; omega), rfl⟩
  · go_enter Try.func14, Try.ntmps14
    go_wp2_with fail
    refine (known_any _ _).mono ?_
    rintro e w1 ⟨rfl, rfl⟩
    go_wp2
    go_ret
    exact ⟨by first | rfl | (simp; omega), rfl⟩
  · go_enter Try.func14, Try.ntmps14
    go_wp2_with fail
    refine (known_any _ _).mono ?_
    rintro e w1 ⟨rfl, rfl⟩
    go_wp2
    go_ret
    exact ⟨by first | rfl | (simp; omega), rfl⟩
  · go_enter Try.func14, Try.ntmps14
    go_wp2_with fail
    refine (known_any _ _).mono ?_
    rintro e w1 ⟨rfl, rfl⟩
    go_wp2
    go_ret
    exact ⟨by first | rfl | (simp; omega), rfl⟩
  · go_enter Try.func14, Try.ntmps14
    go_wp2_with fail
    refine (known_any _ _).mono ?_
    rintro e w1 ⟨rfl, rfl⟩
    go_wp2
    go_ret
    exact ⟨by first | rfl | (simp; omega), rfl⟩
  · go_enter Try.func14, Try.ntmps14
    go_wp2_with fail
    refine (known_any _ _).mono ?_
    rintro e w1 ⟨rfl, rfl⟩
    go_wp2
    go_ret
    exact ⟨by first | rfl | (simp; omega), rfl⟩
  · go_enter Try.func14, Try.ntmps14
    go_wp2_with fail
    refine (known_any _ _).mono ?_
    rintro e w1 ⟨rfl, rfl⟩
    go_wp2
    go_ret
    exact ⟨by first | rfl | (simp; omega), rfl⟩
  · go_enter Try.func14, Try.ntmps14
    go_wp2_with fail
    refine (known_any _ _).mono ?_
    rintro e w1 ⟨rfl, rfl⟩
    go_wp2
    go_ret
    exact ⟨by first | rfl | (simp; omega), rfl⟩
  · go_enter Try.func14, Try.ntmps14
    go_wp2_with fail
    refine (known_any _ _).mono ?_
    rintro e w1 ⟨rfl, rfl⟩
    go_wp2
    go_ret
    exact ⟨by first | rfl | (simp; omega), rfl⟩
  · go_enter Try.func14, Try.ntmps14
    go_wp2_with fail
    refine (known_any _ _).mono ?_
    rintro e w1 ⟨rfl, rfl⟩
    go_wp2
    go_ret
    exact ⟨by first | rfl | (simp; omega), rfl⟩
  · go_enter Try.func14, Try.ntmps14
    go_wp2_with fail
    refine (known_any _ _).mono ?_
    rintro e w1 ⟨rfl, rfl⟩
    go_wp2
    go_ret
    exact ⟨by first | rfl | (simp; omega), rfl⟩
  · go_enter Try.func14, Try.ntmps14
    go_wp2_with fail
    refine (known_any _ _).mono ?_
    rintro e w1 ⟨rfl, rfl⟩
    go_wp2
    go_ret
    exact ⟨by first | rfl | (simp; omega), rfl⟩
  · go_enter Try.func14, Try.ntmps14
    go_wp2_with fail
    refine (known_any _ _).mono ?_
    rintro e w1 ⟨rfl, rfl⟩
    go_wp2
    go_ret
    exact ⟨by first | rfl | (simp; omega), rfl⟩
  · go_enter Try.func14, Try.ntmps14
    go_wp2_with fail
    refine (known_any _ _).mono ?_
    rintro e w1 ⟨rfl, rfl⟩
    go_wp2
    go_ret
    exact ⟨by first | rfl | (simp; omega), rfl⟩
  · go_enter Try.func14, Try.ntmps14
    go_wp2_with fail
    refine (known_any _ _).mono ?_
    rintro e w1 ⟨rfl, rfl⟩
    go_wp2
    go_ret
    exact ⟨by first | rfl | (simp; omega), rfl⟩
  · go_enter Try.func14, Try.ntmps14
    go_wp2_with fail
    refine (known_any _ _).mono ?_
    rintro e w1 ⟨rfl, rfl⟩
    go_wp2
    go_ret
    exact ⟨by first | rfl | (simp; omega), rfl⟩
  · go_enter Try.func14, Try.ntmps14
    go_wp2_with fail
    refine (known_any _ _).mono ?_
    rintro e w1 ⟨rfl, rfl⟩
    go_wp2
    go_ret
    exact ⟨by first | rfl | (simp; omega), rfl⟩
  · go_enter Try.func14, Try.ntmps14
    go_wp2_with fail
    refine (known_any _ _).mono ?_
    rintro e w1 ⟨rfl, rfl⟩
    go_wp2
    go_ret
    exact ⟨by first | rfl | (simp; omega), rfl⟩
  · go_enter Try.func14, Try.ntmps14
    go_wp2_with fail
    refine (known_any _ _).mono ?_
    rintro e w1 ⟨rfl, rfl⟩
    go_wp2
    go_ret
    exact ⟨by first | rfl | (simp; omega), rfl⟩
  · go_enter Try.func14, Try.ntmps14
    go_wp2_with fail
    refine (known_any _ _).mono ?_
    rintro e w1 ⟨rfl, rfl⟩
    go_wp2
    go_ret
    exact ⟨by first | rfl | (simp; omega), rfl⟩
  · go_enter Try.func14, Try.ntmps14
    go_wp2_with fail
    refine (known_any _ _).mono ?_
    rintro e w1 ⟨rfl, rfl⟩
    go_wp2
    go_ret
    exact ⟨by first | rfl | (simp; omega), rfl⟩

set_option maxHeartbeats 4000000 in
theorem ends_any (k : Int) (w : World) :
    Calls Try.prog 24 #[.int .i64 k] w fun e w' => e = .returned (.bool (endsS k)) ∧ w = w' := by
  rcases cases27 k with h | rfl | rfl | rfl | rfl | rfl | rfl | rfl | rfl | rfl | rfl | rfl | rfl | rfl | rfl | rfl | rfl | rfl | rfl | rfl | rfl | rfl | rfl | rfl | rfl | rfl
  · have t : endsS k = false := tab_out _ _ k h
    rw [t]; clear t
    have e19 : (k == 19) = false := by simp; omega
    have e22 : (k == 22) = false := by simp; omega
    have e24 : (k == 24) = false := by simp; omega
    have e25 : (k == 25) = false := by simp; omega
    rcases h with h | h
    · go_enter Try.func24, Try.ntmps24
      go_wp2
      go_ret
      exact ⟨by first | rfl | (simp; omega), rfl⟩
    · go_enter Try.func24, Try.ntmps24
      go_wp2
      go_ret
      exact ⟨by first | rfl | (simp; omega), rfl⟩
  all_goals (go_enter Try.func24, Try.ntmps24; go_wp2; go_ret; exact ⟨by first | rfl | (simp; omega), rfl⟩)

set_option maxHeartbeats 4000000 in
theorem rknown_any (k : Int) (w : World) :
    Calls Try.prog 30 #[.int .i64 k] w fun e w' => e = .returned (.bool (knownS k)) ∧ w = w' := by
  rcases cases27 k with h | rfl | rfl | rfl | rfl | rfl | rfl | rfl | rfl | rfl | rfl | rfl | rfl | rfl | rfl | rfl | rfl | rfl | rfl | rfl | rfl | rfl | rfl | rfl | rfl | rfl
  · have t : knownS k = false := tab_out _ _ k h
    rw [t]; clear t
    rcases h with h | h
    · go_enter Try.func30, Try.ntmps30
      go_wp2
      go_ret
      exact ⟨by first | rfl | (simp; omega), rfl⟩
    · go_enter Try.func30, Try.ntmps30
      go_wp2
      go_ret
      exact ⟨by first | rfl | (simp; omega), rfl⟩
  all_goals (go_enter Try.func30, Try.ntmps30; go_wp2; go_ret; exact ⟨by first | rfl | (simp; omega), rfl⟩)

set_option maxHeartbeats 4000000 in
theorem rhas_any (k : Int) (w : World) :
    Calls Try.prog 16 #[.int .i64 k] w fun e w' => e = .returned (.bool (hasS k)) ∧ w = w' := by
  rcases cases27 k with h | rfl | rfl | rfl | rfl | rfl | rfl | rfl | rfl | rfl | rfl | rfl | rfl | rfl | rfl | rfl | rfl | rfl | rfl | rfl | rfl | rfl | rfl | rfl | rfl | rfl
  · have t : hasS k = false := tab_out _ _ k h
    rw [t]; clear t
    have e1 : (k == 1) = false := by simp; omega
    have e2 : (k == 2) = false := by simp; omega
    have e3 : (k == 3) = false := by simp; omega
    have e19 : (k == 19) = false := by simp; omega
    have e20 : (k == 20) = false := by simp; omega
    have e21 : (k == 21) = false := by simp; omega
    have e23 : (k == 23) = false := by simp; omega
    rcases h with h | h
    · go_enter Try.func16, Try.ntmps16
      go_wp2
      go_ret
      exact ⟨by first | rfl | (simp; omega), rfl⟩
    · go_enter Try.func16, Try.ntmps16
      go_wp2
      go_ret
      exact ⟨by first | rfl | (simp; omega), rfl⟩
  all_goals (go_enter Try.func16, Try.ntmps16; go_wp2; go_ret; exact ⟨by first | rfl | (simp; omega), rfl⟩)

set_option maxHeartbeats 4000000 in
theorem reff_any (k : Int) (w : World) :
    Calls Try.prog 19 #[.int .i64 k] w fun e w' => e = .returned (.tuple #[.int .i64 (eff1S k), .int .i64 (eff2S k), .bool (eff3S k)]) ∧ w = w' := by
  rcases cases27 k with h | rfl | rfl | rfl | rfl | rfl | rfl | rfl | rfl | rfl | rfl | rfl | rfl | rfl | rfl | rfl | rfl | rfl | rfl | rfl | rfl | rfl | rfl | rfl | rfl | rfl
  · have t : eff1S k = 0 ∧ eff2S k = 0 ∧ eff3S k = false := ⟨tab_out _ _ k h, tab_out _ _ k h, tab_out _ _ k h⟩
    obtain ⟨t0, t1, t2⟩ := t
    rw [t0, t1, t2]; clear t0 t1 t2
    have e1 : (k == 1) = false := by simp; omega
    have e2 : (k == 2) = false := by simp; omega
    have e3 : (k == 3) = false := by simp; omega
    have e4 : (k == 4) = false := by simp; omega
    have e5 : (k == 5) = false := by simp; omega
    have e18 : (k == 18) = false := by simp; omega
    have e19 : (k == 19) = false := by simp; omega
    have e20 : (k == 20) = false := by simp; omega
    have e24 : (k == 24) = false := by simp; omega
    have e25 : (k == 25) = false := by simp; omega
    rcases h with h | h
    · go_enter Try.func19, Try.ntmps19
      go_wp2
      go_ret3
      exact ⟨by first | rfl | (simp; omega), rfl⟩
    · go_enter Try.func19, Try.ntmps19
      go_wp2
      go_ret3
      exact ⟨by first | rfl | (simp; omega), rfl⟩
  all_goals (go_enter Try.func19, Try.ntmps19; go_wp2; go_ret3; exact ⟨by first | rfl | (simp; omega), rfl⟩)

set_option maxHeartbeats 4000000 in
theorem rar_any (k : Int) (w : World) :
    Calls Try.prog 21 #[.int .i64 k] w fun e w' => e = .returned (.tuple #[.int .i64 (ar1S k), .bool (ar2S k)]) ∧ Below w.heap.size w w' := by
  rcases cases27 k with h | rfl | rfl | rfl | rfl | rfl | rfl | rfl | rfl | rfl | rfl | rfl | rfl | rfl | rfl | rfl | rfl | rfl | rfl | rfl | rfl | rfl | rfl | rfl | rfl | rfl
  · have t : ar1S k = 0 ∧ ar2S k = false := ⟨tab_out _ _ k h, tab_out _ _ k h⟩
    obtain ⟨t0, t1⟩ := t
    rw [t0, t1]; clear t0 t1
    rcases h with h | h
    · go_enter Try.func21, Try.ntmps21
      go_wp2
      go_ret2
      exact ⟨by first | rfl | (simp; omega), by first | exact Below.refl _ _ | exact below_new _ _ _⟩
    · go_enter Try.func21, Try.ntmps21
      go_wp2
      go_ret2
      exact ⟨by first | rfl | (simp; omega), by first | exact Below.refl _ _ | exact below_new _ _ _⟩
  all_goals (go_enter Try.func21, Try.ntmps21; go_wp2; go_ret2; exact ⟨by first | rfl | (simp; omega), by first | exact Below.refl _ _ | exact below_new _ _ _⟩)

set_option maxHeartbeats 4000000 in
theorem rcost_any (k : Int) (w : World) :
    Calls Try.prog 23 #[.int .i64 k] w fun e w' => e = .returned (.int .i64 (costS k)) ∧ w = w' := by
  rcases cases27 k with h | rfl | rfl | rfl | rfl | rfl | rfl | rfl | rfl | rfl | rfl | rfl | rfl | rfl | rfl | rfl | rfl | rfl | rfl | rfl | rfl | rfl | rfl | rfl | rfl | rfl
  · have t : costS k = 0 := tab_out _ _ k h
    rw [t]; clear t
    have e21 : (k == 21) = false := by simp; omega
    have e23 : (k == 23) = false := by simp; omega
    have kf : knownS k = false := tab_out _ _ k h
    rcases h with h | h
    · go_enter Try.func23, Try.ntmps23
      go_wp2_with fail
      refine (rknown_any _ _).mono ?_
      rintro e w1 ⟨rfl, rfl⟩
      go_wp2
      go_ret
      exact ⟨by first | rfl | (simp; omega), rfl⟩
    · go_enter Try.func23, Try.ntmps23
      go_wp2_with fail
      refine (rknown_any _ _).mono ?_
      rintro e w1 ⟨rfl, rfl⟩
      go_wp2
      go_ret
      exact ⟨by first | rfl | (simp; omega), rfl⟩
  · go_enter Try.func23, Try.ntmps23
    go_wp2_with fail
    refine (rknown_any _ _).mono ?_
    rintro e w1 ⟨rfl, rfl⟩
    go_wp2
    go_ret
    exact ⟨by first | rfl | (simp; omega), rfl⟩
  · go_enter Try.func23, Try.ntmps23
    go_wp2_with fail
    refine (rknown_any _ _).mono ?_
    rintro e w1 ⟨rfl, rfl⟩
    go_wp2
    go_ret
    exact ⟨by first | rfl | (simp; omega), rfl⟩
  · go_enter Try.func23, Try.ntmps23
    go_wp2_with fail
    refine (rknown_any _ _).mono ?_
    rintro e w1 ⟨rfl, rfl⟩
    go_wp2
    go_ret
    exact ⟨by first | rfl | (simp; omega), rfl⟩
  · go_enter Try.func23, Try.ntmps23
    go_wp2_with fail
    refine (rknown_any _ _).mono ?_
    rintro e w1 ⟨rfl, rfl⟩
    go_wp2
    go_ret
    exact ⟨by first | rfl | (simp; omega), rfl⟩
  · go_enter Try.func23, Try.ntmps23
    go_wp2_with fail
    refine (rknown_any _ _).mono ?_
    rintro e w1 ⟨rfl, rfl⟩
    go_wp2
    go_ret
    exact ⟨by first | rfl | (simp; omega), rfl⟩
  · go_enter Try.func23, Try.ntmps23
    go_wp2_with fail
    refine (rknown_any _ _).mono ?_
    rintro e w1 ⟨rfl, rfl⟩
    go_wp2
    go_ret
    exact ⟨by first | rfl | (simp; omega), rfl⟩
  · go_enter Try.func23, Try.ntmps23
    go_wp2_with fail
    refine (rknown_any _ _).mono ?_
    rintro e w1 ⟨rfl, rfl⟩
    go_wp2
    go_ret
    exact ⟨by first | rfl | (simp; omega), rfl⟩
  · go_enter Try.func23, Try.ntmps23
    go_wp2_with fail
    refine (rknown_any _ _).mono ?_
    rintro e w1 ⟨rfl, rfl⟩
    go_wp2
    go_ret
    exact ⟨by first | rfl | (simp; omega), rfl⟩
  · go_enter Try.func23, Try.ntmps23
    go_wp2_with fail
    refine (rknown_any _ _).mono ?_
    rintro e w1 ⟨rfl, rfl⟩
    go_wp2
    go_ret
    exact ⟨by first | rfl | (simp; omega), rfl⟩
  · go_enter Try.func23, Try.ntmps23
    go_wp2_with fail
    refine (rknown_any _ _).mono ?_
    rintro e w1 ⟨rfl, rfl⟩
    go_wp2
    go_ret
    exact ⟨by first | rfl | (simp; omega), rfl⟩
  · go_enter Try.func23, Try.ntmps23
    go_wp2_with fail
    refine (rknown_any _ _).mono ?_
    rintro e w1 ⟨rfl, rfl⟩
    go_wp2
    go_ret
    exact ⟨by first | rfl | (simp; omega), rfl⟩
  · go_enter Try.func23, Try.ntmps23
    go_wp2_with fail
    refine (rknown_any _ _).mono ?_
    rintro e w1 ⟨rfl, rfl⟩
    go_wp2
    go_ret
    exact ⟨by first | rfl | (simp; omega), rfl⟩
  · go_enter Try.func23, Try.ntmps23
    go_wp2_with fail
    refine (rknown_any _ _).mono ?_
    rintro e w1 ⟨rfl, rfl⟩
    go_wp2
    go_ret
    exact ⟨by first | rfl | (simp; omega), rfl⟩
  · go_enter Try.func23, Try.ntmps23
    go_wp2_with fail
    refine (rknown_any _ _).mono ?_
    rintro e w1 ⟨rfl, rfl⟩
    go_wp2
    go_ret
    exact ⟨by first | rfl | (simp; omega), rfl⟩
  · go_enter Try.func23, Try.ntmps23
    go_wp2_with fail
    refine (rknown_any _ _).mono ?_
    rintro e w1 ⟨rfl, rfl⟩
    go_wp2
    go_ret
    exact ⟨by first | rfl | (simp; omega), rfl⟩
  · go_enter Try.func23, Try.ntmps23
    go_wp2_with fail
    refine (rknown_any _ _).mono ?_
    rintro e w1 ⟨rfl, rfl⟩
    go_wp2
    go_ret
    exact ⟨by first | rfl | (simp; omega), rfl⟩
  · go_enter Try.func23, Try.ntmps23
    go_wp2_with fail
    refine (rknown_any _ _).mono ?_
    rintro e w1 ⟨rfl, rfl⟩
    go_wp2
    go_ret
    exact ⟨by first | rfl | (simp; omega), rfl⟩
  · go_enter Try.func23, Try.ntmps23
    go_wp2_with fail
    refine (rknown_any _ _).mono ?_
    rintro e w1 ⟨rfl, rfl⟩
    go_wp2
    go_ret
    exact ⟨by first | rfl | (simp; omega), rfl⟩
  · go_enter Try.func23, Try.ntmps23
    go_wp2_with fail
    refine (rknown_any _ _).mono ?_
    rintro e w1 ⟨rfl, rfl⟩
    go_wp2
    go_ret
    exact ⟨by first | rfl | (simp; omega), rfl⟩
  · go_enter Try.func23, Try.ntmps23
    go_wp2_with fail
    refine (rknown_any _ _).mono ?_
    rintro e w1 ⟨rfl, rfl⟩
    go_wp2
    go_ret
    exact ⟨by first | rfl | (simp; omega), rfl⟩
  · go_enter Try.func23, Try.ntmps23
    go_wp2
    go_ret
    exact ⟨by first | rfl | (simp; omega), rfl⟩
  · go_enter Try.func23, Try.ntmps23
    go_wp2_with fail
    refine (rknown_any _ _).mono ?_
    rintro e w1 ⟨rfl, rfl⟩
    go_wp2
    go_ret
    exact ⟨by first | rfl | (simp; omega), rfl⟩
  · go_enter Try.func23, Try.ntmps23
    go_wp2
    go_ret
    exact ⟨by first | rfl | (simp; omega), rfl⟩
  · go_enter Try.func23, Try.ntmps23
    go_wp2_with fail
    refine (rknown_any _ _).mono ?_
    rintro e w1 ⟨rfl, rfl⟩
    go_wp2
    go_ret
    exact ⟨by first | rfl | (simp; omega), rfl⟩
  · go_enter Try.func23, Try.ntmps23
    go_wp2_with fail
    refine (rknown_any _ _).mono ?_
    rintro e w1 ⟨rfl, rfl⟩
    go_wp2
    go_ret
    exact ⟨by first | rfl | (simp; omega), rfl⟩

set_option maxHeartbeats 4000000 in
theorem rends_any (k : Int) (w : World) :
    Calls Try.prog 25 #[.int .i64 k] w fun e w' => e = .returned (.bool (endsS k)) ∧ w = w' := by
  rcases cases27 k with h | rfl | rfl | rfl | rfl | rfl | rfl | rfl | rfl | rfl | rfl | rfl | rfl | rfl | rfl | rfl | rfl | rfl | rfl | rfl | rfl | rfl | rfl | rfl | rfl | rfl
  · have t : endsS k = false := tab_out _ _ k h
    rw [t]; clear t
    have e19 : (k == 19) = false := by simp; omega
    have e22 : (k == 22) = false := by simp; omega
    have e24 : (k == 24) = false := by simp; omega
    have e25 : (k == 25) = false := by simp; omega
    rcases h with h | h
    · go_enter Try.func25, Try.ntmps25
      go_wp2
      go_ret
      exact ⟨by first | rfl | (simp; omega), rfl⟩
    · go_enter Try.func25, Try.ntmps25
      go_wp2
      go_ret
      exact ⟨by first | rfl | (simp; omega), rfl⟩
  all_goals (go_enter Try.func25, Try.ntmps25; go_wp2; go_ret; exact ⟨by first | rfl | (simp; omega), rfl⟩)

end Go.Proofs.Ytgmepgbdbkamlaa
