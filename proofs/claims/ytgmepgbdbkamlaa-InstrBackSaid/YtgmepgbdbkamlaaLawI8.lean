/-
  InstrBack walked.
-/
import Derived.Test.YtgmepgbdbkamlaaLawI6
import Derived.Test.YtgmepgbdbkamlaaLawI5
namespace Go.Proofs.Ytgmepgbdbkamlaa
open Go.RowKit

theorem u8_back {o : Nat} (h : o ≤ 25) : (UInt8.ofNat o).toNat = o := by simp; omega
theorem decI_enc (o y : Nat) (h1 : 1 ≤ o) (h2 : o ≤ 25) (hy : y < 18446744073709551616) (h0 : hasS o = false → y = 0) (more : List UInt8) : decI (encI o y ++ more) = ((o : Int), y, (encI o y).length, 0) := by
  have hk := known_in (o : Int) (by omega)
  unfold encI
  cases hh : hasS (o : Int)
  · simp only [Bool.false_eq_true, ↓reduceIte, List.cons_append, List.nil_append, List.length_cons, List.length_nil, Nat.zero_add]
    rw [decI_2 (u8_back h2) hk hh, h0 hh]
  · simp only [↓reduceIte, List.cons_append, List.length_cons]
    have hu := decU_enc y hy more
    rw [decI_3 (u8_back h2) hk hh (by rw [hu]), hu, Nat.add_comm]
theorem decI_cut (o y k : Nat) (h1 : 1 ≤ o) (h2 : o ≤ 25) (hy : y < 18446744073709551616) (hk : k < (encI o y).length) : decI ((encI o y).take k) = (0, 0, 0, 2) := by
  have hkn := known_in (o : Int) (by omega)
  unfold encI at hk ⊢
  cases k with
  | zero => rfl
  | succ k =>
    cases hh : hasS (o : Int)
    · rw [hh] at hk
      simp at hk
    · rw [hh] at hk
      simp only [↓reduceIte, List.length_cons] at hk
      simp only [↓reduceIte, List.take_succ_cons]
      have hu := decU_cut y hy k (by omega)
      rw [decI_4 (u8_back h2) hkn hh (by rw [hu]; decide), hu]

theorem iback_no (A : Option Addr) (n c : Nat) (x y : Nat) (w : World) (h : 40 < n) :
    Calls Try.prog 6 #[.int .u8 x, .int .u64 y, .slice A n c] w fun e w' => e = .returned (.bool true) ∧ Below w.heap.size w w' := by
  go_enter Try.func6, Try.ntmps6
  go_wp2_with fail
  refine (awake_any _).mono ?_
  rintro e w1 ⟨rfl, hb1⟩
  go_wp2
  go_ret
  exact ⟨rfl, hb1⟩

set_option maxRecDepth 100000 in
set_option maxHeartbeats 2000000 in
theorem iback_yes (A : Option Addr) (n c : Nat) (x y : Nat) (l : List UInt8) (w : World) (hn : l.length = n) (hs : Sl w w.heap.size A (bys l)) (h : n ≤ 40) (hy : y < 18446744073709551616) :
    Calls Try.prog 6 #[.int .u8 x, .int .u64 y, .slice A n c] w fun e w' => e = .returned (.bool true) ∧ Below w.heap.size w w' := by
  have HN := hid hn
  have HS := hid hs
  obtain ⟨r, hr⟩ : ∃ r, r = x % 25 := ⟨_, rfl⟩
  have e25 : (x : Int).tmod 25 = (r : Int) := by rw [hr]; rfl
  have hr25 : r < 25 := by omega
  have hw : wrap64 (r : Int) = r := by unfold wrap64; omega
  obtain ⟨o, ho⟩ : ∃ o, o = 1 + r := ⟨_, rfl⟩
  have eo : (1 + (r : Int)) = (o : Int) := by omega
  have hw2 : wrap64 (o : Int) = o := by unfold wrap64; omega
  obtain ⟨z, hz⟩ : ∃ z, z = if hasS (o : Int) then y else 0 := ⟨_, rfl⟩
  have O1 := hid (show 1 ≤ o by omega)
  have O2 := hid (show o ≤ 25 by omega)
  have HZ := hid (show z < 18446744073709551616 by rw [hz]; split <;> omega)
  have HZ0 := hid (show hasS (o : Int) = false → z = 0 by intro h; rw [hz, h]; rfl)
  have HE := hid (show insErr o z = 0 by
    unfold insErr
    rw [known_in (o : Int) (by omega)]
    cases hh : hasS (o : Int)
    · rw [HZ0.out hh]; simp
    · simp)
  have hl : (encI o z).length ≤ 11 := by
    unfold encI
    have := enc_len10 z HZ.out
    split <;> simp <;> omega
  have HD := hid (decI_enc o z O1.out O2.out HZ.out HZ0.out)
  have HK := hid (fun k => decI_cut o z k O1.out O2.out HZ.out)
  obtain ⟨b, hb⟩ : ∃ b, b = encI o z := ⟨_, rfl⟩
  obtain ⟨p, hp⟩ : ∃ p, p = b.length := ⟨_, rfl⟩
  have hp11 : p ≤ 11 := by rw [hp, hb]; exact hl
  have HI := hid (fun w => iencode_yes o z w O1.out O2.out HE.out HZ.out)
  rw [← hb] at HD HK HI
  rw [← hp] at HD HK HI
  have HP := hid hp
  unfold insv at HI
  clear hn hs hr ho hl hb hp HE
  cases hh : hasS (o : Int)
  · rw [hh] at hz
    simp only [Bool.false_eq_true, ↓reduceIte] at hz
    subst hz
    go_enter Try.func6, Try.ntmps6
    go_wp2_with fail
    refine (rhas_any _ _).mono ?_
    rintro e w0 ⟨rfl, rfl⟩
    go_wp2_with fail
    refine (HI.out _).mono ?_
    rintro e w1 ⟨A1, c1, rfl, ho1, hb1⟩
    have HB1 := hid (below_go (below_new w _ _) hb1)
    have HX1 := hid ho1
    have HC1 := hid (own_le ho1)
    have HG1 := hid (show TwoAt w.heap.size o 0 w1 from two_keep ⟨by simp [go_sem], by simp [go_sem], by simp⟩ hb1)
    clear ho1 hb1
    have HE1 := hid (own_empty w1 5 w1.heap.size (Nat.le_refl _))
    have HBE := hid (below_new w1 #[] 5)
    have SX := hid ((Sl.of_own HX1.out).go HBE.out)
    go_wp2_with (at_builtin; refine wp_app8 rfl (.tmp 38) (.tmp 39) rfl w1.heap.size (some ⟨w1.heap.size, 0, none⟩) 0 0 [] rfl HE1.out A1 _ p c1 b rfl HP.out.symm SX.out p (by omega) (by omega) (by exact HBE.out.size) ?_)
    intro A3 c3 w3 ho3 hg3
    have HL3 := hid (HBE.out.grown hg3 HBE.out.size (own_lt HE1.out))
    have HO3 := hid ho3
    have HS3 := hid (HS.out.go (below_go HB1.out HL3.out))
    clear ho3 hg3
    go_wp2_with (at_builtin; refine wp_app8 rfl (.tmp 40) (.tmp 41) rfl w1.heap.size A3 p c3 b rfl HO3.out A _ n c l rfl HN.out HS3.out (p + n) (by omega) (by omega) (by exact HL3.out.size) ?_)
    intro A4 c4 w4 ho4 hg4
    have HL4 := hid (HL3.out.grown hg4 HL3.out.size (own_lt HO3.out))
    have D4 := idec_any A4 (p + n) c4 (b ++ l) w4 (by rw [List.length_append, HN.out, ← HP.out]) (own_le ho4) (Sl.of_own ho4) (by omega)
    rw [HD.out l] at D4
    unfold ret4 insv at D4
    have HD4 := hid D4
    clear ho4 hg4 D4
    go_wp2_with fail
    refine HD4.out.mono ?_
    rintro e w5 ⟨rfl, hb5⟩
    have HL5 := hid (HL4.out.trans (hb5.mono HL4.out.size))
    clear hb5
    go_wp2_with fail
    obtain ⟨V, hV⟩ : ∃ V, V = w5.alloc (.cells #[.int .i64 (o : Int), .int .u64 (0 : Int)] 24) := ⟨_, rfl⟩
    have HL6 := hid (show Below w1.heap.size w1 V by rw [hV]; exact HL5.out.alloc HL5.out.size _)
    have HY6 := hid (show TwoAt w5.heap.size o 0 V by rw [hV]; exact ⟨by simp [go_sem], by simp [go_sem], by simp⟩)
    have HV := hid hV
    clear hV
    have HX6 := hid (own_below HX1.out HL6.out)
    have HG6 := hid (two_keep HG1.out HL6.out)
    have HB6 := hid (below_go HB1.out HL6.out)
    simp only [← HV.out]
    clear HL3 HL4 HL5 HO3 HS3 HE1 HBE SX HX1 HG1 HV HD4 HI HS
    go_loopw [13] (fun i wr => ∃ k : Nat, k ≤ p ∧ i = .int .i64 k ∧ Below V.heap.size V wr) (fun i _ => p - (intOf i).toNat)
    case atStart => exact ⟨0, by omega, rfl, Below.refl _ _⟩
    case round =>
      obtain ⟨k, hk, rfl, hbr⟩ := hrel
      have HBR := hid hbr
      clear hbr
      by_cases hlt : k < p
      · have D := idec_any A1 k c1 (b.take k) wr (by rw [List.length_take, ← HP.out]; omega) (by have := HC1.out; omega) (by rw [bys_take]; exact ((Sl.of_own HX6.out).go HBR.out).take k) (by omega)
        rw [HK.out k hlt] at D
        unfold ret4 insv at D
        have DD := hid D
        clear D
        have hc1 := HC1.out
        go_wp2_with fail
        refine DD.out.mono ?_
        rintro e w7 ⟨rfl, hb7⟩
        have HB7 := hid (below_go HBR.out hb7)
        clear hb7
        go_wp2
        go_roundw
        case rel => exact ⟨k + 1, by omega, by go_num, below_go HB7.out (below_new _ _ _)⟩
        case measure => simp [intOf]; omega
      · obtain rfl : k = p := by omega
        go_wp2_with fail
        refine (awake_any _).mono ?_
        rintro e w7 ⟨rfl, hb7⟩
        have HB7 := hid (below_go HBR.out hb7)
        have x0 := (two_keep HG6.out HB7.out).1
        have x1 := (two_keep HG6.out HB7.out).2.1
        have y0 := (two_keep HY6.out HB7.out).1
        have y1 := (two_keep HY6.out HB7.out).2.1
        clear hb7
        go_wp2
        go_ret
        exact ⟨rfl, below_go HB6.out HB7.out⟩
  · rw [hh] at hz
    simp only [↓reduceIte] at hz
    subst hz
    go_enter Try.func6, Try.ntmps6
    go_wp2_with fail
    refine (rhas_any _ _).mono ?_
    rintro e w0 ⟨rfl, rfl⟩
    go_wp2_with fail
    refine (HI.out _).mono ?_
    rintro e w1 ⟨A1, c1, rfl, ho1, hb1⟩
    have HB1 := hid (below_go (below_new w _ _) hb1)
    have HX1 := hid ho1
    have HC1 := hid (own_le ho1)
    have HG1 := hid (show TwoAt w.heap.size o z w1 from two_keep ⟨by simp [go_sem], by simp [go_sem], by simp⟩ hb1)
    clear ho1 hb1
    have HE1 := hid (own_empty w1 5 w1.heap.size (Nat.le_refl _))
    have HBE := hid (below_new w1 #[] 5)
    have SX := hid ((Sl.of_own HX1.out).go HBE.out)
    go_wp2_with (at_builtin; refine wp_app8 rfl (.tmp 38) (.tmp 39) rfl w1.heap.size (some ⟨w1.heap.size, 0, none⟩) 0 0 [] rfl HE1.out A1 _ p c1 b rfl HP.out.symm SX.out p (by omega) (by omega) (by exact HBE.out.size) ?_)
    intro A3 c3 w3 ho3 hg3
    have HL3 := hid (HBE.out.grown hg3 HBE.out.size (own_lt HE1.out))
    have HO3 := hid ho3
    have HS3 := hid (HS.out.go (below_go HB1.out HL3.out))
    clear ho3 hg3
    go_wp2_with (at_builtin; refine wp_app8 rfl (.tmp 40) (.tmp 41) rfl w1.heap.size A3 p c3 b rfl HO3.out A _ n c l rfl HN.out HS3.out (p + n) (by omega) (by omega) (by exact HL3.out.size) ?_)
    intro A4 c4 w4 ho4 hg4
    have HL4 := hid (HL3.out.grown hg4 HL3.out.size (own_lt HO3.out))
    have D4 := idec_any A4 (p + n) c4 (b ++ l) w4 (by rw [List.length_append, HN.out, ← HP.out]) (own_le ho4) (Sl.of_own ho4) (by omega)
    rw [HD.out l] at D4
    unfold ret4 insv at D4
    have HD4 := hid D4
    clear ho4 hg4 D4
    go_wp2_with fail
    refine HD4.out.mono ?_
    rintro e w5 ⟨rfl, hb5⟩
    have HL5 := hid (HL4.out.trans (hb5.mono HL4.out.size))
    clear hb5
    go_wp2_with fail
    obtain ⟨V, hV⟩ : ∃ V, V = w5.alloc (.cells #[.int .i64 (o : Int), .int .u64 (z : Int)] 24) := ⟨_, rfl⟩
    have HL6 := hid (show Below w1.heap.size w1 V by rw [hV]; exact HL5.out.alloc HL5.out.size _)
    have HY6 := hid (show TwoAt w5.heap.size o z V by rw [hV]; exact ⟨by simp [go_sem], by simp [go_sem], by simp⟩)
    have HV := hid hV
    clear hV
    have HX6 := hid (own_below HX1.out HL6.out)
    have HG6 := hid (two_keep HG1.out HL6.out)
    have HB6 := hid (below_go HB1.out HL6.out)
    simp only [← HV.out]
    clear HL3 HL4 HL5 HO3 HS3 HE1 HBE SX HX1 HG1 HV HD4 HI HS
    go_loopw [13] (fun i wr => ∃ k : Nat, k ≤ p ∧ i = .int .i64 k ∧ Below V.heap.size V wr) (fun i _ => p - (intOf i).toNat)
    case atStart => exact ⟨0, by omega, rfl, Below.refl _ _⟩
    case round =>
      obtain ⟨k, hk, rfl, hbr⟩ := hrel
      have HBR := hid hbr
      clear hbr
      by_cases hlt : k < p
      · have D := idec_any A1 k c1 (b.take k) wr (by rw [List.length_take, ← HP.out]; omega) (by have := HC1.out; omega) (by rw [bys_take]; exact ((Sl.of_own HX6.out).go HBR.out).take k) (by omega)
        rw [HK.out k hlt] at D
        unfold ret4 insv at D
        have DD := hid D
        clear D
        have hc1 := HC1.out
        go_wp2_with fail
        refine DD.out.mono ?_
        rintro e w7 ⟨rfl, hb7⟩
        have HB7 := hid (below_go HBR.out hb7)
        clear hb7
        go_wp2
        go_roundw
        case rel => exact ⟨k + 1, by omega, by go_num, below_go HB7.out (below_new _ _ _)⟩
        case measure => simp [intOf]; omega
      · obtain rfl : k = p := by omega
        go_wp2_with fail
        refine (awake_any _).mono ?_
        rintro e w7 ⟨rfl, hb7⟩
        have HB7 := hid (below_go HBR.out hb7)
        have x0 := (two_keep HG6.out HB7.out).1
        have x1 := (two_keep HG6.out HB7.out).2.1
        have y0 := (two_keep HY6.out HB7.out).1
        have y1 := (two_keep HY6.out HB7.out).2.1
        clear hb7
        go_wp2
        go_ret
        exact ⟨rfl, below_go HB6.out HB7.out⟩
theorem iback_walk (A : Option Addr) (n c : Nat) (x y : Nat) (l : List UInt8) (w : World) (hn : l.length = n) (hs : Sl w w.heap.size A (bys l)) (hy : y < 18446744073709551616) :
    Calls Try.prog 6 #[.int .u8 x, .int .u64 y, .slice A n c] w fun e w' => e = .returned (.bool true) ∧ Below w.heap.size w w' := by
  by_cases h : 40 < n
  · exact iback_no A n c x y w h
  · exact iback_yes A n c x y l w hn hs (by omega) hy
end Go.Proofs.Ytgmepgbdbkamlaa
