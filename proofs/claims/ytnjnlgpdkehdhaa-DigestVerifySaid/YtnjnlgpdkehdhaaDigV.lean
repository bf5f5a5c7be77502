/-
  What digest.Verify and the reference's VerifyChain compute: the place of the first digest that does not belong to the records.
-/
import Derived.Test.YtnjnlgpdkehdhaaLawD3
namespace Go.Proofs.Ytnjnlgpdkehdhaa
open Go.RowKit

/-- The first place from i on at which two lists differ, with the error. -/
def vdiff : List Int → List Int → Int → Int × Int
  | x :: xs, y :: ys, i => if x = y then vdiff xs ys (i + 1) else (i, 21)
  | _, _, _ => (-1, 0)
def dints (ls : List (List UInt8)) : List Int := (digs fStart ls).map fun x : Nat => (x : Int)
theorem dints_length (ls : List (List UInt8)) : (dints ls).length = ls.length := by simp [dints, digs_length]
theorem dnums_dints (ls : List (List UInt8)) : dnums (digs fStart ls) = nums .u64 (dints ls) := rfl
def verif (ls : List (List UInt8)) (ys : List Int) : Int × Int := if ls.length = ys.length then vdiff (dints ls) ys 0 else (-1, 1)

theorem vdiff_step {xs ys : List Int} {k : Nat} (hx : k < xs.length) (hy : k < ys.length) (h : xs[k] = ys[k]) : vdiff (xs.drop k) (ys.drop k) k = vdiff (xs.drop (k + 1)) (ys.drop (k + 1)) ((k + 1 : Nat) : Int) := by
  rw [List.drop_eq_getElem_cons hx, List.drop_eq_getElem_cons hy, vdiff, if_pos h]
  simp
theorem vdiff_hit {xs ys : List Int} {k : Nat} (hx : k < xs.length) (hy : k < ys.length) (h : ¬ xs[k] = ys[k]) : vdiff (xs.drop k) (ys.drop k) k = ((k : Int), 21) := by
  rw [List.drop_eq_getElem_cons hx, List.drop_eq_getElem_cons hy, vdiff, if_neg h]
theorem vdiff_end {xs ys : List Int} {k : Nat} (hx : xs.length ≤ k) : vdiff (xs.drop k) (ys.drop k) k = (-1, 0) := by
  rw [List.drop_eq_nil_of_le hx]
  cases List.drop k ys <;> simp [vdiff]

theorem vdiff_same (xs : List Int) (i : Int) : vdiff xs xs i = (-1, 0) := by
  induction xs generalizing i with
  | nil => rfl
  | cons x xs ih => rw [vdiff, if_pos rfl, ih]

theorem ret2 {a b c d : Int} (h1 : a = c) (h2 : b = d) : Ending.returned (.tuple #[.int .i64 a, .int .i64 b]) = Ending.returned (.tuple #[.int .i64 c, .int .i64 d]) := by rw [h1, h2]

theorem verify_len (A A2 : Option Addr) (n c n2 c2 : Nat) (w : World) (h : n ≠ n2) :
    Calls Try.prog 18 #[.slice A n c, .slice A2 n2 c2] w fun e w' => e = .returned (.tuple #[.int .i64 (-1), .int .i64 1]) ∧ w = w' := by
  have e0 : ((n : Int) != (n2 : Int)) = true := by simp; omega
  clear h
  go_enter Try.func18, Try.ntmps18
  go_wp2
  go_ret2
  exact ⟨rfl, rfl⟩

theorem rverify_len (A A2 : Option Addr) (n c n2 c2 : Nat) (w : World) (h : n ≠ n2) :
    Calls Try.prog 19 #[.slice A n c, .slice A2 n2 c2] w fun e w' => e = .returned (.tuple #[.int .i64 (-1), .int .i64 1]) ∧ w = w' := by
  have e0 : ((n : Int) != (n2 : Int)) = true := by simp; omega
  clear h
  go_enter Try.func19, Try.ntmps19
  go_wp2
  go_ret2
  exact ⟨rfl, rfl⟩

set_option maxHeartbeats 1000000 in
theorem verify_same (A A2 : Option Addr) (n c c2 B : Nat) (vs : List Value) (ls : List (List UInt8)) (ys : List Int) (w : World) (hn : ls.length = n) (hs : Sl w B A vs) (hr : RowsOf w B vs ls) (hB : B ≤ w.heap.size) (hsh : Short ls)
    (hy : ys.length = n) (hs2 : Sl w B A2 (nums .u64 ys)) :
    Calls Try.prog 18 #[.slice A n c, .slice A2 n c2] w fun e w' => e = .returned (.tuple #[.int .i64 (vdiff (dints ls) ys 0).1, .int .i64 (vdiff (dints ls) ys 0).2]) ∧ Below w.heap.size w w' := by
  have H := hid (digests_any A n c B vs ls w hn hs hr hB hsh)
  have HX := hid (show (dints ls).length = n by rw [dints_length, hn])
  have HY := hid hy
  have hn1 : n ≤ 1000 := by have := hsh.1; omega
  have e0 : ((n : Int) != (n : Int)) = false := by simp
  clear hn hs hr hsh hy
  go_enter Try.func18, Try.ntmps18
  go_wp2_with fail
  refine H.out.mono ?_
  rintro e w1 ⟨A1, c1, rfl, ho1, hb1⟩
  rw [dnums_dints] at ho1
  have s1 := Sl.of_own ho1
  have s2 := hs2.below (hb1.mono hB)
  have HB := hid hb1
  clear ho1 hb1 hs2
  go_wp2
  go_loop [16] (fun i => ∃ k : Nat, k ≤ n ∧ i = .int .i64 k ∧ vdiff (dints ls) ys 0 = vdiff ((dints ls).drop k) (ys.drop k) k) (fun i => n - (intOf i).toNat)
  case atStart => exact ⟨0, by omega, rfl, rfl⟩
  case round =>
    obtain ⟨k, hk, rfl, hv⟩ := hrel
    have HV := hid hv
    clear hv
    by_cases hlt : k < n
    · have hx : k < (dints ls).length := by rw [HX.out]; exact hlt
      have hy : k < ys.length := by rw [HY.out]; exact hlt
      obtain ⟨b1, o1, rfl, _, g1⟩ := s1.num hx
      obtain ⟨b2, o2, rfl, _, g2⟩ := s2.num hy
      clear s1 s2
      by_cases heq : (dints ls)[k] = ys[k]
      · have t : (ys[k] != (dints ls)[k]) = false := by rw [heq]; simp
        have HQ := hid heq
        clear heq
        go_wp2
        go_round
        case rel => exact ⟨k + 1, by omega, by go_num, HV.out.trans (vdiff_step hx hy HQ.out)⟩
        case measure => simp [intOf]; omega
      · have t : (ys[k] != (dints ls)[k]) = true := by simp; omega
        have HQ := hid (HV.out.trans (vdiff_hit hx hy heq))
        clear heq
        go_wp2
        go_ret2
        exact ⟨by rw [HQ.out]; rfl, HB.out⟩
    · have HQ := hid (HV.out.trans (vdiff_end (by rw [HX.out]; omega)))
      clear s1 s2
      go_wp2
      go_ret2
      exact ⟨by rw [HQ.out]; rfl, HB.out⟩

set_option maxHeartbeats 1000000 in
theorem rverify_same (A A2 : Option Addr) (n c c2 B : Nat) (vs : List Value) (ls : List (List UInt8)) (ys : List Int) (w : World) (hn : ls.length = n) (hs : Sl w B A vs) (hr : RowsOf w B vs ls) (hB : B ≤ w.heap.size) (hsh : Short ls)
    (hy : ys.length = n) (hs2 : Sl w B A2 (nums .u64 ys)) :
    Calls Try.prog 19 #[.slice A n c, .slice A2 n c2] w fun e w' => e = .returned (.tuple #[.int .i64 (vdiff (dints ls) ys 0).1, .int .i64 (vdiff (dints ls) ys 0).2]) ∧ Below w.heap.size w w' := by
  have H := hid (rdigests_any A n c B vs ls w hn hs hr hB hsh)
  have HX := hid (show (dints ls).length = n by rw [dints_length, hn])
  have HY := hid hy
  have hn1 : n ≤ 1000 := by have := hsh.1; omega
  have e0 : ((n : Int) != (n : Int)) = false := by simp
  clear hn hs hr hsh hy
  go_enter Try.func19, Try.ntmps19
  go_wp2_with fail
  refine H.out.mono ?_
  rintro e w1 ⟨A1, c1, rfl, ho1, hb1⟩
  rw [dnums_dints] at ho1
  have s1 := Sl.of_own ho1
  have s2 := hs2.below (hb1.mono hB)
  have hsz := hb1.size
  have HB := hid hb1
  clear ho1 hb1 hs2
  go_wp2
  go_loopw [7] (fun i wr => ∃ k : Nat, k ≤ n ∧ i = .int .i64 k ∧ vdiff (dints ls) ys 0 = vdiff ((dints ls).drop k) (ys.drop k) k ∧ Below w1.heap.size w1 wr) (fun i _ => n - (intOf i).toNat)
  case atStart => exact ⟨0, by omega, rfl, rfl, Below.refl _ _⟩
  case round =>
    obtain ⟨k, hk, rfl, hv, hb2⟩ := hrel
    have HV := hid hv
    clear hv
    by_cases hlt : k < n
    · have hx : k < (dints ls).length := by rw [HX.out]; exact hlt
      have hy : k < ys.length := by rw [HY.out]; exact hlt
      obtain ⟨b1, o1, rfl, _, g1⟩ := (s1.below hb2).num hx
      obtain ⟨b2, o2, rfl, _, g2⟩ := (s2.below (hb2.mono (Nat.le_trans hB hsz))).num hy
      have HB2 := hid hb2
      have i0 : (0 : Int) ≤ (k : Int) := by omega
      have i1 : (k : Int) < (n : Int) := by omega
      clear s1 s2 hb2
      by_cases heq : (dints ls)[k] = ys[k]
      · have t : ((dints ls)[k] != ys[k]) = false := by rw [heq]; simp
        have HQ := hid heq
        clear heq
        go_wp2
        go_quiet (fail)
        go_wp2
        go_roundw
        case rel => exact ⟨k + 1, by omega, by go_num, HV.out.trans (vdiff_step hx hy HQ.out), below_drewN HB2.out _⟩
        case measure => simp [intOf]; omega
      · have t : ((dints ls)[k] != ys[k]) = true := by simp; omega
        have HQ := hid (HV.out.trans (vdiff_hit hx hy heq))
        clear heq
        go_wp2
        go_quiet (fail)
        go_wp2
        go_ret2
        exact ⟨by rw [HQ.out]; rfl, HB.out.trans (below_drewN (HB2.out.mono hsz) _)⟩
    · have HQ := hid (HV.out.trans (vdiff_end (by rw [HX.out]; omega)))
      have HB2 := hid hb2
      clear s1 s2 hb2
      go_wp2
      go_ret2
      exact ⟨by rw [HQ.out]; rfl, HB.out.trans (HB2.out.mono hsz)⟩

theorem verify_any (A A2 : Option Addr) (n c n2 c2 B : Nat) (vs : List Value) (ls : List (List UInt8)) (ys : List Int) (w : World) (hn : ls.length = n) (hs : Sl w B A vs) (hr : RowsOf w B vs ls) (hB : B ≤ w.heap.size) (hsh : Short ls)
    (hy : ys.length = n2) (hs2 : Sl w B A2 (nums .u64 ys)) :
    Calls Try.prog 18 #[.slice A n c, .slice A2 n2 c2] w fun e w' => e = .returned (.tuple #[.int .i64 (verif ls ys).1, .int .i64 (verif ls ys).2]) ∧ Below w.heap.size w w' := by
  unfold verif
  by_cases h : n = n2
  · subst h
    rw [if_pos (by omega)]
    exact verify_same A A2 n c c2 B vs ls ys w hn hs hr hB hsh hy hs2
  · rw [if_neg (by omega)]
    exact (verify_len A A2 n c n2 c2 w h).mono fun e w' ⟨h1, h2⟩ => ⟨h1, h2 ▸ Below.refl _ _⟩

theorem rverify_any (A A2 : Option Addr) (n c n2 c2 B : Nat) (vs : List Value) (ls : List (List UInt8)) (ys : List Int) (w : World) (hn : ls.length = n) (hs : Sl w B A vs) (hr : RowsOf w B vs ls) (hB : B ≤ w.heap.size) (hsh : Short ls)
    (hy : ys.length = n2) (hs2 : Sl w B A2 (nums .u64 ys)) :
    Calls Try.prog 19 #[.slice A n c, .slice A2 n2 c2] w fun e w' => e = .returned (.tuple #[.int .i64 (verif ls ys).1, .int .i64 (verif ls ys).2]) ∧ Below w.heap.size w w' := by
  unfold verif
  by_cases h : n = n2
  · subst h
    rw [if_pos (by omega)]
    exact rverify_same A A2 n c c2 B vs ls ys w hn hs hr hB hsh hy hs2
  · rw [if_neg (by omega)]
    exact (rverify_len A A2 n c n2 c2 w h).mono fun e w' ⟨h1, h2⟩ => ⟨h1, h2 ▸ Below.refl _ _⟩
end Go.Proofs.Ytnjnlgpdkehdhaa
