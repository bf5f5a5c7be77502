/-
  instr.Check, instr.Encode and the reference's; the law's 'awake'.
-/
import Derived.Test.YtgmepgbdbkamlaaInsN
import Derived.Test.YtgmepgbdbkamlaaWireP
namespace Go.Proofs.Ytgmepgbdbkamlaa
open Go.RowKit

/-- An instruction as the model's value. -/
def insv (o a : Int) : Value := .agg #[.int .i64 o, .int .u64 a]
/-- The error of an instruction. -/
def insErr (o a : Int) : Int := if knownS o = false then 22 else if hasS o = false ∧ a ≠ 0 then 1 else 0

theorem icheck_any (o a : Int) (w : World) :
    Calls Try.prog 10 #[insv o a] w fun e w' => e = .returned (.int .i64 (insErr o a)) ∧ Below w.heap.size w w' := by
  unfold insv insErr
  cases hk : knownS o
  · simp only [↓reduceIte]
    go_enter Try.func10, Try.ntmps10
    go_wp2_with fail
    refine (known_any _ _).mono ?_
    rintro e w1 ⟨rfl, rfl⟩
    go_wp2
    go_ret
    exact ⟨rfl, below_new _ _ _⟩
  · simp only [Bool.true_eq_false, ↓reduceIte]
    cases hh : hasS o
    · by_cases ha : a = 0
      · subst ha
        simp only [↓reduceIte, ne_eq, not_true_eq_false, and_false]
        go_enter Try.func10, Try.ntmps10
        go_wp2_with fail
        refine (known_any _ _).mono ?_
        rintro e w1 ⟨rfl, rfl⟩
        go_wp2_with fail
        refine (has_any _ _).mono ?_
        rintro e w1 ⟨rfl, rfl⟩
        go_wp2
        go_ret
        exact ⟨rfl, below_new _ _ _⟩
      · simp only [ne_eq, ha, not_false_eq_true, and_self, ↓reduceIte]
        have ha' : (a == 0) = false := by simp [ha]
        go_enter Try.func10, Try.ntmps10
        go_wp2_with fail
        refine (known_any _ _).mono ?_
        rintro e w1 ⟨rfl, rfl⟩
        go_wp2_with fail
        refine (has_any _ _).mono ?_
        rintro e w1 ⟨rfl, rfl⟩
        go_wp2
        go_ret
        exact ⟨rfl, below_new _ _ _⟩
    · simp only [Bool.true_eq_false, false_and, ↓reduceIte]
      go_enter Try.func10, Try.ntmps10
      go_wp2_with fail
      refine (known_any _ _).mono ?_
      rintro e w1 ⟨rfl, rfl⟩
      go_wp2_with fail
      refine (has_any _ _).mono ?_
      rintro e w1 ⟨rfl, rfl⟩
      go_wp2
      go_ret
      exact ⟨rfl, below_new _ _ _⟩
theorem richeck_any (o a : Int) (w : World) :
    Calls Try.prog 11 #[insv o a] w fun e w' => e = .returned (.int .i64 (insErr o a)) ∧ Below w.heap.size w w' := by
  unfold insv insErr
  cases hk : knownS o
  · simp only [↓reduceIte]
    go_enter Try.func11, Try.ntmps11
    go_wp2_with fail
    refine (rknown_any _ _).mono ?_
    rintro e w1 ⟨rfl, rfl⟩
    go_wp2
    go_ret
    exact ⟨rfl, below_new _ _ _⟩
  · simp only [Bool.true_eq_false, ↓reduceIte]
    cases hh : hasS o
    · by_cases ha : a = 0
      · subst ha
        simp only [↓reduceIte, ne_eq, not_true_eq_false, and_false]
        go_enter Try.func11, Try.ntmps11
        go_wp2_with fail
        refine (rknown_any _ _).mono ?_
        rintro e w1 ⟨rfl, rfl⟩
        go_wp2_with fail
        refine (rhas_any _ _).mono ?_
        rintro e w1 ⟨rfl, rfl⟩
        go_wp2
        go_ret
        exact ⟨rfl, below_new _ _ _⟩
      · simp only [ne_eq, ha, not_false_eq_true, and_self, ↓reduceIte]
        have ha' : (a == 0) = false := by simp [ha]
        go_enter Try.func11, Try.ntmps11
        go_wp2_with fail
        refine (rknown_any _ _).mono ?_
        rintro e w1 ⟨rfl, rfl⟩
        go_wp2_with fail
        refine (rhas_any _ _).mono ?_
        rintro e w1 ⟨rfl, rfl⟩
        go_wp2
        go_ret
        exact ⟨rfl, below_new _ _ _⟩
    · simp only [Bool.true_eq_false, false_and, ↓reduceIte]
      go_enter Try.func11, Try.ntmps11
      go_wp2_with fail
      refine (rknown_any _ _).mono ?_
      rintro e w1 ⟨rfl, rfl⟩
      go_wp2_with fail
      refine (rhas_any _ _).mono ?_
      rintro e w1 ⟨rfl, rfl⟩
      go_wp2
      go_ret
      exact ⟨rfl, below_new _ _ _⟩

/-- What Encode returns: bytes of its own and the error 0. -/
def OwnBytes2 (w : World) (l : List UInt8) (n : Nat) (e : Ending) (w' : World) : Prop :=
  ∃ A c, e = .returned (.tuple #[.slice A n c, .int .i64 0]) ∧ w'.ownsRow w.heap.size 5 1 (.slice A n c) n (bys l) ∧ Below w.heap.size w w'
/-- The encoding of an instruction. -/
def encI (o a : Nat) : List UInt8 := UInt8.ofNat o :: (if hasS o then enc a else [])
theorem own_one (w : World) (e : TypeId) (base o : Nat) (ho : o < 256) (hb : base ≤ w.heap.size) : (w.alloc (.cells #[.int .u8 (o : Int)] e)).ownsRow base e 1 (.slice (some ⟨w.heap.size, 0, none⟩) 1 1) 1 (bys [UInt8.ofNat o]) := by
  have e1 : bys [UInt8.ofNat o] = [.int .u8 (o : Int)] := by simp [bys, u8v]; omega
  rw [e1]
  exact ⟨rfl, .inr ⟨w.heap.size, 1, #[.int .u8 (o : Int)], rfl, hb, heap_alloc_last w _, Nat.le_refl _, by unfold maxLen; omega, rfl, rfl⟩⟩

theorem iencode_no (o a : Int) (w : World) (he : insErr o a ≠ 0) :
    Calls Try.prog 8 #[insv o a] w fun e w' => e = .returned (.tuple #[.slice none 0 0, .int .i64 (insErr o a)]) ∧ Below w.heap.size w w' := by
  have C := hid (icheck_any o a (w.alloc (.cells #[.int .i64 o, .int .u64 a] 24)))
  have he' : (insErr o a == 0) = false := by simp [he]
  unfold insv at *
  go_enter Try.func8, Try.ntmps8
  go_wp2_with fail
  refine C.out.mono ?_
  rintro e w1 ⟨rfl, hb1⟩
  go_wp2
  go_ret2
  exact ⟨rfl, below_go (below_new w _ _) hb1⟩

set_option maxHeartbeats 1000000 in
theorem iencode_yes (o a : Nat) (w : World) (h1 : 1 ≤ o) (h2 : o ≤ 25) (he : insErr o a = 0) (ha : a < 18446744073709551616) :
    Calls Try.prog 8 #[insv o a] w (OwnBytes2 w (encI o a) (encI o a).length) := by
  have C := hid (icheck_any o a (w.alloc (.cells #[.int .i64 o, .int .u64 a] 24)))
  rw [he] at C
  clear he
  have HA := hid ha
  have H25 := hid h2
  clear ha
  unfold insv at *
  go_enter Try.func8, Try.ntmps8
  go_wp2_with fail
  refine C.out.mono ?_
  rintro e w1 ⟨rfl, hb1⟩
  have HB1 := hid (below_go (below_new w _ _) hb1)
  have HZ := hid (show w.heap.size < w1.heap.size by have := hb1.size; simp at this; omega)
  have HG0 := hid (((below_new w1 #[.int .u8 o] 5).cell (p := ⟨w.heap.size, 0, none⟩) HZ.out).trans (show w1.cell? ⟨w.heap.size, 0, none⟩ = some (.int .i64 (o : Int)) by rw [hb1.cell (p := ⟨w.heap.size, 0, none⟩) (by simp)]; simp [go_sem]))
  have HG1 := hid (((below_new w1 #[.int .u8 o] 5).cell (p := ⟨w.heap.size, 1, none⟩) HZ.out).trans (show w1.cell? ⟨w.heap.size, 1, none⟩ = some (.int .u64 (a : Int)) by rw [hb1.cell (p := ⟨w.heap.size, 1, none⟩) (by simp)]; simp [go_sem]))
  have f0 : w1.cell? ⟨w.heap.size, 0, none⟩ = some (.int .i64 (o : Int)) := by rw [hb1.cell (p := ⟨w.heap.size, 0, none⟩) (by simp)]; simp [go_sem]
  have g0 := HG0.out
  have g1 := HG1.out
  clear hb1 C
  have HB2 := hid (below_go HB1.out (below_new w1 #[.int .u8 (o : Int)] 5))
  have HO2 := hid (own_one w1 5 w.heap.size o (by omega) HB1.out.size)
  have EI := hid (show encI o a = UInt8.ofNat o :: (if hasS o then enc a else []) by rfl)
  go_wp2_with fail
  refine (has_any _ _).mono ?_
  rintro e w2 ⟨rfl, rfl⟩
  clear f0
  cases hh : hasS o
  · have e1 : encI o a = [UInt8.ofNat o] := by rw [EI.out, hh]; rfl
    clear g0 g1
    go_wp2
    go_ret2
    rw [e1]
    exact ⟨_, _, rfl, HO2.out, HB2.out⟩
  · have e1 : encI o a = [UInt8.ofNat o] ++ enc a := by rw [EI.out, hh]; rfl
    have HP := hid (put_any (some ⟨w1.heap.size, 0, none⟩) 1 1 _ a [UInt8.ofNat o] (w1.alloc (.cells #[.int .u8 (o : Int)] 5)) rfl (Sl.of_own HO2.out) (Nat.le_refl _) (by omega) HA.out)
    go_wp2_with fail
    refine HP.out.mono ?_
    rintro e w3 ⟨A3, c3, rfl, ho3, hb3⟩
    have HB3 := hid (below_go HB2.out hb3)
    have HO3 := hid (own_base ho3 HB2.out.size)
    clear ho3 hb3 g0 g1
    go_wp2
    go_ret2
    rw [e1, List.length_append]
    exact ⟨_, _, rfl, HO3.out, HB3.out⟩

theorem riencode_no (o a : Int) (w : World) (he : insErr o a ≠ 0) :
    Calls Try.prog 9 #[insv o a] w fun e w' => e = .returned (.tuple #[.slice none 0 0, .int .i64 (insErr o a)]) ∧ Below w.heap.size w w' := by
  have C := hid (richeck_any o a (w.alloc (.cells #[.int .i64 o, .int .u64 a] 24)))
  have he' : (insErr o a == 0) = false := by simp [he]
  unfold insv at *
  go_enter Try.func9, Try.ntmps9
  go_wp2_with fail
  refine C.out.mono ?_
  rintro e w1 ⟨rfl, hb1⟩
  go_wp2
  go_ret2
  exact ⟨rfl, below_go (below_new w _ _) hb1⟩

set_option maxHeartbeats 1000000 in
theorem riencode_yes (o a : Nat) (w : World) (h1 : 1 ≤ o) (h2 : o ≤ 25) (he : insErr o a = 0) (ha : a < 18446744073709551616) :
    Calls Try.prog 9 #[insv o a] w (OwnBytes2 w (encI o a) (encI o a).length) := by
  have C := hid (richeck_any o a (w.alloc (.cells #[.int .i64 o, .int .u64 a] 24)))
  rw [he] at C
  clear he
  have HA := hid ha
  have H25 := hid h2
  clear ha
  unfold insv at *
  go_enter Try.func9, Try.ntmps9
  go_wp2_with fail
  refine C.out.mono ?_
  rintro e w1 ⟨rfl, hb1⟩
  have HB1 := hid (below_go (below_new w _ _) hb1)
  have HZ := hid (show w.heap.size < w1.heap.size by have := hb1.size; simp at this; omega)
  have HG0 := hid (((below_new w1 #[.int .u8 o] 5).cell (p := ⟨w.heap.size, 0, none⟩) HZ.out).trans (show w1.cell? ⟨w.heap.size, 0, none⟩ = some (.int .i64 (o : Int)) by rw [hb1.cell (p := ⟨w.heap.size, 0, none⟩) (by simp)]; simp [go_sem]))
  have HG1 := hid (((below_new w1 #[.int .u8 o] 5).cell (p := ⟨w.heap.size, 1, none⟩) HZ.out).trans (show w1.cell? ⟨w.heap.size, 1, none⟩ = some (.int .u64 (a : Int)) by rw [hb1.cell (p := ⟨w.heap.size, 1, none⟩) (by simp)]; simp [go_sem]))
  have f0 : w1.cell? ⟨w.heap.size, 0, none⟩ = some (.int .i64 (o : Int)) := by rw [hb1.cell (p := ⟨w.heap.size, 0, none⟩) (by simp)]; simp [go_sem]
  have g0 := HG0.out
  have g1 := HG1.out
  clear hb1 C
  have HB2 := hid (below_go HB1.out (below_new w1 #[.int .u8 (o : Int)] 5))
  have HO2 := hid (own_one w1 5 w.heap.size o (by omega) HB1.out.size)
  have EI := hid (show encI o a = UInt8.ofNat o :: (if hasS o then enc a else []) by rfl)
  go_wp2_with fail
  refine (rhas_any _ _).mono ?_
  rintro e w2 ⟨rfl, rfl⟩
  clear f0
  cases hh : hasS o
  · have e1 : encI o a = [UInt8.ofNat o] := by rw [EI.out, hh]; rfl
    clear g0 g1
    go_wp2
    go_ret2
    rw [e1]
    exact ⟨_, _, rfl, HO2.out, HB2.out⟩
  · have e1 : encI o a = [UInt8.ofNat o] ++ enc a := by rw [EI.out, hh]; rfl
    have HP := hid (rput_any (some ⟨w1.heap.size, 0, none⟩) 1 1 _ a [UInt8.ofNat o] (w1.alloc (.cells #[.int .u8 (o : Int)] 5)) rfl (Sl.of_own HO2.out) (Nat.le_refl _) (by omega) HA.out)
    go_wp2_with fail
    refine HP.out.mono ?_
    rintro e w3 ⟨A3, c3, rfl, ho3, hb3⟩
    have HB3 := hid (below_go HB2.out hb3)
    have HO3 := hid (own_base ho3 HB2.out.size)
    clear ho3 hb3 g0 g1
    go_wp2
    go_ret2
    rw [e1, List.length_append]
    exact ⟨_, _, rfl, HO3.out, HB3.out⟩
end Go.Proofs.Ytgmepgbdbkamlaa
