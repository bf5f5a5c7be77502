/-
  event.Check and the reference's CheckEvent: 0 for an event that is right, 1 for any other.
-/
import Derived.Test.YtmhmaodnkifcaaaUse
import Derived.Test.YtmhmaodnkifcaaaProg
import Derived.WalkLawsBesides
import Derived.WalkSpells
import Derived.Outline
namespace Go.Proofs.Ytmhmaodnkifcaaa
open Go.RowKit

/-- An event that is right: the plugin, the operation, the error. -/
def EvOK (p o x : Int) : Prop := 1 ≤ p ∧ p ≤ 64 ∧ ((1 ≤ o ∧ o ≤ 11) ∨ o = 32 ∨ o = 33) ∧ 0 ≤ x ∧ x ≤ 29

set_option maxHeartbeats 2000000 in
theorem check_yes (p o x h a : Int) (w : World) (ok : EvOK p o x) :
    Calls Try.prog 62 #[.agg #[.int .i64 p, .int .i64 o, .int .u64 h, .int .u64 a, .int .i64 x]] w fun e w' => e = .returned (.int .i64 0) ∧ Below w.heap.size w w' := by
  obtain ⟨p1, p2, ho, x1, x2⟩ := ok
  rcases ho with ho | ho | ho
  · obtain ⟨o1, o2⟩ := ho
    have e2 : (o == 32) = false := by simp; omega
    have e3 : (o == 33) = false := by simp; omega
    go_enter Try.func62, Try.ntmps62
    go_wp2
    go_ret
    exact ⟨rfl, below_new _ _ _⟩
  · subst ho
    go_enter Try.func62, Try.ntmps62
    go_wp2
    go_ret
    exact ⟨rfl, below_new _ _ _⟩
  · subst ho
    go_enter Try.func62, Try.ntmps62
    go_wp2
    go_ret
    exact ⟨rfl, below_new _ _ _⟩

set_option maxHeartbeats 4000000 in
theorem check_no (p o x h a : Int) (w : World) (no : ¬ EvOK p o x) :
    Calls Try.prog 62 #[.agg #[.int .i64 p, .int .i64 o, .int .u64 h, .int .u64 a, .int .i64 x]] w fun e w' => e = .returned (.int .i64 1) ∧ Below w.heap.size w w' := by
  unfold EvOK at no
  rcases (show (o < 1) ∨ (1 ≤ o ∧ o ≤ 11) ∨ (o = 32) ∨ (o = 33) ∨ (11 < o ∧ o ≠ 32 ∧ o ≠ 33) by omega) with ho | ho | ho | ho | ho
  · by_cases p1 : p < 1
    · clear no
      have e2 : (o == 32) = false := by simp; omega
      have e3 : (o == 33) = false := by simp; omega
      have e4 : (o != 32) = true := by simp; omega
      have e5 : (o != 33) = true := by simp; omega
      go_enter Try.func62, Try.ntmps62
      go_wp2
      go_ret
      exact ⟨rfl, below_new _ _ _⟩
    · by_cases p2 : 64 < p
      · clear no
        have e2 : (o == 32) = false := by simp; omega
        have e3 : (o == 33) = false := by simp; omega
        have e4 : (o != 32) = true := by simp; omega
        have e5 : (o != 33) = true := by simp; omega
        go_enter Try.func62, Try.ntmps62
        go_wp2
        go_ret
        exact ⟨rfl, below_new _ _ _⟩
      · clear no
        have e2 : (o == 32) = false := by simp; omega
        have e3 : (o == 33) = false := by simp; omega
        have e4 : (o != 32) = true := by simp; omega
        have e5 : (o != 33) = true := by simp; omega
        go_enter Try.func62, Try.ntmps62
        go_wp2
        go_ret
        exact ⟨rfl, below_new _ _ _⟩
  · by_cases p1 : p < 1
    · clear no
      obtain ⟨o1, o2⟩ := ho
      have e2 : (o == 32) = false := by simp; omega
      have e3 : (o == 33) = false := by simp; omega
      go_enter Try.func62, Try.ntmps62
      go_wp2
      go_ret
      exact ⟨rfl, below_new _ _ _⟩
    · by_cases p2 : 64 < p
      · clear no
        obtain ⟨o1, o2⟩ := ho
        have e2 : (o == 32) = false := by simp; omega
        have e3 : (o == 33) = false := by simp; omega
        go_enter Try.func62, Try.ntmps62
        go_wp2
        go_ret
        exact ⟨rfl, below_new _ _ _⟩
      · by_cases x1 : x < 0
        · clear no
          obtain ⟨o1, o2⟩ := ho
          have e2 : (o == 32) = false := by simp; omega
          have e3 : (o == 33) = false := by simp; omega
          go_enter Try.func62, Try.ntmps62
          go_wp2
          go_ret
          exact ⟨rfl, below_new _ _ _⟩
        · have x2 : 29 < x := by omega
          clear no
          obtain ⟨o1, o2⟩ := ho
          have e2 : (o == 32) = false := by simp; omega
          have e3 : (o == 33) = false := by simp; omega
          go_enter Try.func62, Try.ntmps62
          go_wp2
          go_ret
          exact ⟨rfl, below_new _ _ _⟩
  · by_cases p1 : p < 1
    · clear no
      subst ho
      go_enter Try.func62, Try.ntmps62
      go_wp2
      go_ret
      exact ⟨rfl, below_new _ _ _⟩
    · by_cases p2 : 64 < p
      · clear no
        subst ho
        go_enter Try.func62, Try.ntmps62
        go_wp2
        go_ret
        exact ⟨rfl, below_new _ _ _⟩
      · by_cases x1 : x < 0
        · clear no
          subst ho
          go_enter Try.func62, Try.ntmps62
          go_wp2
          go_ret
          exact ⟨rfl, below_new _ _ _⟩
        · have x2 : 29 < x := by omega
          clear no
          subst ho
          go_enter Try.func62, Try.ntmps62
          go_wp2
          go_ret
          exact ⟨rfl, below_new _ _ _⟩
  · by_cases p1 : p < 1
    · clear no
      subst ho
      go_enter Try.func62, Try.ntmps62
      go_wp2
      go_ret
      exact ⟨rfl, below_new _ _ _⟩
    · by_cases p2 : 64 < p
      · clear no
        subst ho
        go_enter Try.func62, Try.ntmps62
        go_wp2
        go_ret
        exact ⟨rfl, below_new _ _ _⟩
      · by_cases x1 : x < 0
        · clear no
          subst ho
          go_enter Try.func62, Try.ntmps62
          go_wp2
          go_ret
          exact ⟨rfl, below_new _ _ _⟩
        · have x2 : 29 < x := by omega
          clear no
          subst ho
          go_enter Try.func62, Try.ntmps62
          go_wp2
          go_ret
          exact ⟨rfl, below_new _ _ _⟩
  · by_cases p1 : p < 1
    · clear no
      obtain ⟨o1, o2, o3⟩ := ho
      have e2 : (o == 32) = false := by simp; omega
      have e3 : (o == 33) = false := by simp; omega
      have e4 : (o != 32) = true := by simp; omega
      have e5 : (o != 33) = true := by simp; omega
      clear o2 o3
      go_enter Try.func62, Try.ntmps62
      go_wp2
      go_ret
      exact ⟨rfl, below_new _ _ _⟩
    · by_cases p2 : 64 < p
      · clear no
        obtain ⟨o1, o2, o3⟩ := ho
        have e2 : (o == 32) = false := by simp; omega
        have e3 : (o == 33) = false := by simp; omega
        have e4 : (o != 32) = true := by simp; omega
        have e5 : (o != 33) = true := by simp; omega
        clear o2 o3
        go_enter Try.func62, Try.ntmps62
        go_wp2
        go_ret
        exact ⟨rfl, below_new _ _ _⟩
      · clear no
        obtain ⟨o1, o2, o3⟩ := ho
        have e2 : (o == 32) = false := by simp; omega
        have e3 : (o == 33) = false := by simp; omega
        have e4 : (o != 32) = true := by simp; omega
        have e5 : (o != 33) = true := by simp; omega
        clear o2 o3
        go_enter Try.func62, Try.ntmps62
        go_wp2
        go_ret
        exact ⟨rfl, below_new _ _ _⟩

set_option maxHeartbeats 2000000 in
theorem rcheck_yes (p o x h a : Int) (w : World) (ok : EvOK p o x) :
    Calls Try.prog 50 #[.agg #[.int .i64 p, .int .i64 o, .int .u64 h, .int .u64 a, .int .i64 x]] w fun e w' => e = .returned (.int .i64 0) ∧ Below w.heap.size w w' := by
  obtain ⟨p1, p2, ho, x1, x2⟩ := ok
  rcases ho with ho | ho | ho
  · obtain ⟨o1, o2⟩ := ho
    have e2 : (o == 32) = false := by simp; omega
    have e3 : (o == 33) = false := by simp; omega
    go_enter Try.func50, Try.ntmps50
    go_wp2
    go_ret
    exact ⟨rfl, below_new _ _ _⟩
  · subst ho
    go_enter Try.func50, Try.ntmps50
    go_wp2
    go_ret
    exact ⟨rfl, below_new _ _ _⟩
  · subst ho
    go_enter Try.func50, Try.ntmps50
    go_wp2
    go_ret
    exact ⟨rfl, below_new _ _ _⟩

set_option maxHeartbeats 4000000 in
theorem rcheck_no (p o x h a : Int) (w : World) (no : ¬ EvOK p o x) :
    Calls Try.prog 50 #[.agg #[.int .i64 p, .int .i64 o, .int .u64 h, .int .u64 a, .int .i64 x]] w fun e w' => e = .returned (.int .i64 1) ∧ Below w.heap.size w w' := by
  unfold EvOK at no
  rcases (show (o < 1) ∨ (1 ≤ o ∧ o ≤ 11) ∨ (o = 32) ∨ (o = 33) ∨ (11 < o ∧ o ≠ 32 ∧ o ≠ 33) by omega) with ho | ho | ho | ho | ho
  · by_cases p1 : p < 1
    · clear no
      have e2 : (o == 32) = false := by simp; omega
      have e3 : (o == 33) = false := by simp; omega
      have e4 : (o != 32) = true := by simp; omega
      have e5 : (o != 33) = true := by simp; omega
      go_enter Try.func50, Try.ntmps50
      go_wp2
      go_ret
      exact ⟨rfl, below_new _ _ _⟩
    · by_cases p2 : 64 < p
      · clear no
        have e2 : (o == 32) = false := by simp; omega
        have e3 : (o == 33) = false := by simp; omega
        have e4 : (o != 32) = true := by simp; omega
        have e5 : (o != 33) = true := by simp; omega
        go_enter Try.func50, Try.ntmps50
        go_wp2
        go_ret
        exact ⟨rfl, below_new _ _ _⟩
      · by_cases x1 : x < 0
        · clear no
          have e2 : (o == 32) = false := by simp; omega
          have e3 : (o == 33) = false := by simp; omega
          have e4 : (o != 32) = true := by simp; omega
          have e5 : (o != 33) = true := by simp; omega
          go_enter Try.func50, Try.ntmps50
          go_wp2
          go_ret
          exact ⟨rfl, below_new _ _ _⟩
        · by_cases x2 : 29 < x
          · clear no
            have e2 : (o == 32) = false := by simp; omega
            have e3 : (o == 33) = false := by simp; omega
            have e4 : (o != 32) = true := by simp; omega
            have e5 : (o != 33) = true := by simp; omega
            go_enter Try.func50, Try.ntmps50
            go_wp2
            go_ret
            exact ⟨rfl, below_new _ _ _⟩
          · clear no
            have e2 : (o == 32) = false := by simp; omega
            have e3 : (o == 33) = false := by simp; omega
            have e4 : (o != 32) = true := by simp; omega
            have e5 : (o != 33) = true := by simp; omega
            go_enter Try.func50, Try.ntmps50
            go_wp2
            go_ret
            exact ⟨rfl, below_new _ _ _⟩
  · by_cases p1 : p < 1
    · clear no
      obtain ⟨o1, o2⟩ := ho
      have e2 : (o == 32) = false := by simp; omega
      have e3 : (o == 33) = false := by simp; omega
      go_enter Try.func50, Try.ntmps50
      go_wp2
      go_ret
      exact ⟨rfl, below_new _ _ _⟩
    · by_cases p2 : 64 < p
      · clear no
        obtain ⟨o1, o2⟩ := ho
        have e2 : (o == 32) = false := by simp; omega
        have e3 : (o == 33) = false := by simp; omega
        go_enter Try.func50, Try.ntmps50
        go_wp2
        go_ret
        exact ⟨rfl, below_new _ _ _⟩
      · by_cases x1 : x < 0
        · clear no
          obtain ⟨o1, o2⟩ := ho
          have e2 : (o == 32) = false := by simp; omega
          have e3 : (o == 33) = false := by simp; omega
          go_enter Try.func50, Try.ntmps50
          go_wp2
          go_ret
          exact ⟨rfl, below_new _ _ _⟩
        · have x2 : 29 < x := by omega
          clear no
          obtain ⟨o1, o2⟩ := ho
          have e2 : (o == 32) = false := by simp; omega
          have e3 : (o == 33) = false := by simp; omega
          go_enter Try.func50, Try.ntmps50
          go_wp2
          go_ret
          exact ⟨rfl, below_new _ _ _⟩
  · by_cases p1 : p < 1
    · clear no
      subst ho
      go_enter Try.func50, Try.ntmps50
      go_wp2
      go_ret
      exact ⟨rfl, below_new _ _ _⟩
    · by_cases p2 : 64 < p
      · clear no
        subst ho
        go_enter Try.func50, Try.ntmps50
        go_wp2
        go_ret
        exact ⟨rfl, below_new _ _ _⟩
      · by_cases x1 : x < 0
        · clear no
          subst ho
          go_enter Try.func50, Try.ntmps50
          go_wp2
          go_ret
          exact ⟨rfl, below_new _ _ _⟩
        · have x2 : 29 < x := by omega
          clear no
          subst ho
          go_enter Try.func50, Try.ntmps50
          go_wp2
          go_ret
          exact ⟨rfl, below_new _ _ _⟩
  · by_cases p1 : p < 1
    · clear no
      subst ho
      go_enter Try.func50, Try.ntmps50
      go_wp2
      go_ret
      exact ⟨rfl, below_new _ _ _⟩
    · by_cases p2 : 64 < p
      · clear no
        subst ho
        go_enter Try.func50, Try.ntmps50
        go_wp2
        go_ret
        exact ⟨rfl, below_new _ _ _⟩
      · by_cases x1 : x < 0
        · clear no
          subst ho
          go_enter Try.func50, Try.ntmps50
          go_wp2
          go_ret
          exact ⟨rfl, below_new _ _ _⟩
        · have x2 : 29 < x := by omega
          clear no
          subst ho
          go_enter Try.func50, Try.ntmps50
          go_wp2
          go_ret
          exact ⟨rfl, below_new _ _ _⟩
  · by_cases p1 : p < 1
    · clear no
      obtain ⟨o1, o2, o3⟩ := ho
      have e2 : (o == 32) = false := by simp; omega
      have e3 : (o == 33) = false := by simp; omega
      have e4 : (o != 32) = true := by simp; omega
      have e5 : (o != 33) = true := by simp; omega
      clear o2 o3
      go_enter Try.func50, Try.ntmps50
      go_wp2
      go_ret
      exact ⟨rfl, below_new _ _ _⟩
    · by_cases p2 : 64 < p
      · clear no
        obtain ⟨o1, o2, o3⟩ := ho
        have e2 : (o == 32) = false := by simp; omega
        have e3 : (o == 33) = false := by simp; omega
        have e4 : (o != 32) = true := by simp; omega
        have e5 : (o != 33) = true := by simp; omega
        clear o2 o3
        go_enter Try.func50, Try.ntmps50
        go_wp2
        go_ret
        exact ⟨rfl, below_new _ _ _⟩
      · by_cases x1 : x < 0
        · clear no
          obtain ⟨o1, o2, o3⟩ := ho
          have e2 : (o == 32) = false := by simp; omega
          have e3 : (o == 33) = false := by simp; omega
          have e4 : (o != 32) = true := by simp; omega
          have e5 : (o != 33) = true := by simp; omega
          clear o2 o3
          go_enter Try.func50, Try.ntmps50
          go_wp2
          go_ret
          exact ⟨rfl, below_new _ _ _⟩
        · by_cases x2 : 29 < x
          · clear no
            obtain ⟨o1, o2, o3⟩ := ho
            have e2 : (o == 32) = false := by simp; omega
            have e3 : (o == 33) = false := by simp; omega
            have e4 : (o != 32) = true := by simp; omega
            have e5 : (o != 33) = true := by simp; omega
            clear o2 o3
            go_enter Try.func50, Try.ntmps50
            go_wp2
            go_ret
            exact ⟨rfl, below_new _ _ _⟩
          · clear no
            obtain ⟨o1, o2, o3⟩ := ho
            have e2 : (o == 32) = false := by simp; omega
            have e3 : (o == 33) = false := by simp; omega
            have e4 : (o != 32) = true := by simp; omega
            have e5 : (o != 33) = true := by simp; omega
            clear o2 o3
            go_enter Try.func50, Try.ntmps50
            go_wp2
            go_ret
            exact ⟨rfl, below_new _ _ _⟩
end Go.Proofs.Ytmhmaodnkifcaaa
