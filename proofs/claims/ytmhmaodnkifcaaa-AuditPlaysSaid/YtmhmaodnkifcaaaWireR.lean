/-
  What the reference's Uint computes: the plain decoding.
-/
import Derived.Test.YtmhmaodnkifcaaaWireG
namespace Go.Proofs.Ytmhmaodnkifcaaa
open Go.RowKit

theorem val_append (a b : List UInt8) : val (a ++ b) = val a + 128 ^ a.length * val b := by
  induction a with
  | nil => simp [val]
  | cons c a ih =>
    simp only [List.cons_append, val, ih, List.length_cons, Nat.pow_succ, Nat.mul_add]
    rw [Nat.mul_comm (128 ^ a.length) 128, Nat.mul_assoc, Nat.add_assoc]
theorem val_drop_le (l : List UInt8) (j : Nat) : val (l.drop j) ≤ val l := by
  conv => rhs; rw [← List.take_append_drop j l]
  rw [val_append]
  have h1 : 0 < 128 ^ (l.take j).length := Nat.pow_pos (by decide)
  have h2 : val (l.drop j) ≤ 128 ^ (l.take j).length * val (l.drop j) := Nat.le_mul_of_pos_left _ h1
  omega
theorem val_back {l : List UInt8} {k j : Nat} (hj0 : 1 ≤ j) (hj : j ≤ k + 1) (hk : k < l.length) : val ((l.take (k + 1)).drop (j - 1)) = val ((l.take (k + 1)).drop j) * 128 + (l[j - 1]'(by omega)).toNat % 128 := by
  have hl : j - 1 < (l.take (k + 1)).length := by rw [List.length_take]; omega
  rw [List.drop_eq_getElem_cons hl, val, List.getElem_take, show j - 1 + 1 = j from by omega]
  omega

/-- What the first loop knows. -/
def Lead (l : List UInt8) (k : Nat) : Prop := (k ≤ 9 ∧ Upto l k) ∨ (k = 10 ∧ decU l = (0, 0, 3))
theorem lead_succ {l : List UInt8} {k : Nat} (h : Lead l k) (hk : k < l.length) (h10 : k < 10) (hc : 128 ≤ l[k].toNat) : Lead l (k + 1) := by
  rcases h with ⟨_, h⟩ | ⟨h, _⟩
  · by_cases h9 : k = 9
    · exact .inr ⟨by omega, upto_bad h hk (.inl ⟨h9, by omega⟩)⟩
    · exact .inl ⟨by omega, upto_succ h hk h9 hc⟩
  · omega
theorem lead_upto {l : List UInt8} {k : Nat} (h : Lead l k) (h10 : k < 10) : Upto l k := by
  rcases h with ⟨_, h⟩ | ⟨h, _⟩
  · exact h
  · omega
theorem lead_ten {l : List UInt8} {k : Nat} (h : Lead l k) (h10 : k = 10) : decU l = (0, 0, 3) := by
  rcases h with ⟨_, _⟩ | ⟨_, h⟩
  · omega
  · exact h

set_option maxRecDepth 100000 in
set_option maxHeartbeats 8000000 in
theorem ruint_any (A : Option Addr) (n c B : Nat) (l : List UInt8) (w : World) (hn : l.length = n) (hs : Sl w B A (bys l)) (hm : n ≤ 70368744177664) :
    Calls Try.prog 67 #[.slice A n c] w fun e w' => e = .returned (.tuple #[.int .u64 (decU l).1, .int .i64 (decU l).2.1, .int .i64 (decU l).2.2]) ∧ w = w' := by
  have HN := hid hn
  clear hn
  go_enter Try.func67, Try.ntmps67
  go_wp2_with fail
  go_loop [5] (fun i => ∃ k : Nat, k ≤ n ∧ k ≤ 10 ∧ i = .int .i64 k ∧ Lead l k) (fun i => 10 - (intOf i).toNat)
  case atStart => exact ⟨0, by omega, by omega, rfl, .inl ⟨by omega, upto_zero l⟩⟩
  case round =>
    obtain ⟨k, hk, hk10, rfl, hld⟩ := hrel
    have HLD := hid hld
    clear hld
    by_cases hlt : k < n
    · have hlt' : k < l.length := by rw [HN.out]; omega
      have en : ((k : Int) == (n : Int)) = false := by simp; omega
      by_cases h10 : k < 10
      · have HU := hid (lead_upto HLD.out h10)
        have e10 : ((k : Int) == 10) = false := by simp; omega
        obtain ⟨b, off, rfl, _, g⟩ := hs.byte hlt'
        have hC0 : ∀ i, (hi : i < l.length) → w.cell? ⟨b, off + i, none⟩ = some (.int .u8 (l[i].toNat : Int)) := by
          intro i hi
          obtain ⟨b', off', hA, _, g'⟩ := hs.byte hi
          injection hA with hA
          injection hA with h1 h2
          rw [h1, h2]
          exact g'
        have HC := hid hC0
        clear hC0
        obtain ⟨y, hy⟩ : ∃ y, y = l[k] := ⟨_, rfl⟩
        rw [← hy] at g
        have HY := hid hy
        have h256 := y.toNat_lt
        clear hs hy
        by_cases h128 : 128 ≤ y.toNat
        · have HR := hid (lead_succ HLD.out hlt' h10 (by rw [← HY.out]; exact h128))
          go_wp2
          go_round
          case rel => exact ⟨k + 1, by omega, by omega, by go_num, HR.out⟩
          case measure => simp [intOf]; omega
        · by_cases h9 : k = 9
          · have e9 : ((k : Int) == 9) = true := by simp [h9]
            have hk0 : 0 < k := by omega
            have g9 : w.cell? ⟨b, off + 9, none⟩ = some (.int .u8 (y.toNat : Int)) := by rw [← h9]; exact g
            have n9 : (9 : Int) < (n : Int) := by omega
            have H9 := hid h9
            clear h9
            by_cases h1 : 1 < y.toNat
            · have HR := hid (upto_bad HU.out hlt' (.inl ⟨H9.out, by rw [← HY.out]; exact h1⟩))
              go_wp2
              go_ret3
              exact ⟨ret3 HR.out, rfl⟩
            · by_cases h0 : y.toNat = 0
              · have e0 : ((y.toNat : Int) == 0) = true := by simp [h0]
                have H0 := hid h0
                clear h0
                have HR := hid (upto_bad HU.out hlt' (.inr ⟨hk0, by rw [← HY.out]; exact H0.out⟩))
                go_wp2
                go_ret3
                exact ⟨ret3 HR.out, rfl⟩
              · have e0 : ((y.toNat : Int) == 0) = false := by simp; omega
                have HR := hid (upto_last HU.out hlt' (by rw [← HY.out]; omega) (by rw [← HY.out]; omega))
                have hfit := val_fits hlt' (by omega) (by intro _; rw [← HY.out]; omega)
                have HF := hid hfit
                clear hfit
                go_wp2
                go_loop [6, 7] (fun nv i => ∃ j : Nat, j ≤ k + 1 ∧ i = .int .i64 ((j : Int) - 1) ∧ nv = .int .u64 (val ((l.take (k + 1)).drop j))) (fun _ i => (intOf i + 1).toNat)
                case atStart => exact ⟨k + 1, by omega, by go_num, by rw [List.drop_eq_nil_of_le (by simp; omega)]; rfl⟩
                case round =>
                  obtain ⟨j, hj, rfl, rfl⟩ := hrel
                  by_cases hj0 : 1 ≤ j
                  · have hjl : j - 1 < l.length := by omega
                    have hcz := HC.out (j - 1) hjl
                    obtain ⟨z, hz⟩ : ∃ z, z = l[j - 1] := ⟨_, rfl⟩
                    rw [← hz] at hcz
                    have hst := val_back (l := l) (k := k) (j := j) hj0 hj hlt'
                    rw [← hz] at hst
                    have hle := val_drop_le (l.take (k + 1)) (j - 1)
                    obtain ⟨V, hV⟩ : ∃ V, V = val ((l.take (k + 1)).drop j) := ⟨_, rfl⟩
                    rw [← hV] at hst ⊢
                    have b1 : (V : Int) * 128 ≤ 18446744073709551615 := by have := HF.out; omega
                    have b2 : (V : Int) * 128 + (z.toNat : Int) % 128 ≤ 18446744073709551615 := by have := HF.out; omega
                    have HT := hid hst
                    have HZ := hid hz
                    have hz256 := z.toNat_lt
                    clear hst hle hz hV
                    have i0 : (0 : Int) ≤ (j : Int) - 1 := by omega
                    have i1 : (j : Int) - 1 < (n : Int) := by have := HN.out; omega
                    have i2 : ((j : Int) - 1).toNat = j - 1 := by omega
                    go_wp2
                    go_round
                    case rel => exact ⟨j - 1, by omega, by go_num, ret_u64' (by have := HT.out; omega)⟩
                    case measure => simp [intOf]; omega
                  · obtain rfl : j = 0 := by omega
                    go_wp2
                    go_ret3
                    exact ⟨ret3' HR.out (by simp), rfl⟩
          · have e9 : ((k : Int) == 9) = false := by simp; omega
            by_cases hk0 : 0 < k
            · by_cases h0 : y.toNat = 0
              · have e0 : ((y.toNat : Int) == 0) = true := by simp [h0]
                have H0 := hid h0
                clear h0
                have HR := hid (upto_bad HU.out hlt' (.inr ⟨hk0, by rw [← HY.out]; exact H0.out⟩))
                go_wp2
                go_ret3
                exact ⟨ret3 HR.out, rfl⟩
              · have e0 : ((y.toNat : Int) == 0) = false := by simp; omega
                have HR := hid (upto_last HU.out hlt' (by rw [← HY.out]; omega) (by rw [← HY.out]; omega))
                have hfit := val_fits hlt' (by omega) (by intro _; rw [← HY.out]; omega)
                have HF := hid hfit
                clear hfit
                go_wp2
                go_loop [6, 7] (fun nv i => ∃ j : Nat, j ≤ k + 1 ∧ i = .int .i64 ((j : Int) - 1) ∧ nv = .int .u64 (val ((l.take (k + 1)).drop j))) (fun _ i => (intOf i + 1).toNat)
                case atStart => exact ⟨k + 1, by omega, by go_num, by rw [List.drop_eq_nil_of_le (by simp; omega)]; rfl⟩
                case round =>
                  obtain ⟨j, hj, rfl, rfl⟩ := hrel
                  by_cases hj0 : 1 ≤ j
                  · have hjl : j - 1 < l.length := by omega
                    have hcz := HC.out (j - 1) hjl
                    obtain ⟨z, hz⟩ : ∃ z, z = l[j - 1] := ⟨_, rfl⟩
                    rw [← hz] at hcz
                    have hst := val_back (l := l) (k := k) (j := j) hj0 hj hlt'
                    rw [← hz] at hst
                    have hle := val_drop_le (l.take (k + 1)) (j - 1)
                    obtain ⟨V, hV⟩ : ∃ V, V = val ((l.take (k + 1)).drop j) := ⟨_, rfl⟩
                    rw [← hV] at hst ⊢
                    have b1 : (V : Int) * 128 ≤ 18446744073709551615 := by have := HF.out; omega
                    have b2 : (V : Int) * 128 + (z.toNat : Int) % 128 ≤ 18446744073709551615 := by have := HF.out; omega
                    have HT := hid hst
                    have HZ := hid hz
                    have hz256 := z.toNat_lt
                    clear hst hle hz hV
                    have i0 : (0 : Int) ≤ (j : Int) - 1 := by omega
                    have i1 : (j : Int) - 1 < (n : Int) := by have := HN.out; omega
                    have i2 : ((j : Int) - 1).toNat = j - 1 := by omega
                    go_wp2
                    go_round
                    case rel => exact ⟨j - 1, by omega, by go_num, ret_u64' (by have := HT.out; omega)⟩
                    case measure => simp [intOf]; omega
                  · obtain rfl : j = 0 := by omega
                    go_wp2
                    go_ret3
                    exact ⟨ret3' HR.out (by simp), rfl⟩
            · have HR := hid (upto_last HU.out hlt' (by rw [← HY.out]; omega) (by rw [← HY.out]; omega))
              have hfit := val_fits hlt' (by omega) (by intro _; rw [← HY.out]; omega)
              have HF := hid hfit
              clear hfit
              go_wp2
              go_loop [6, 7] (fun nv i => ∃ j : Nat, j ≤ k + 1 ∧ i = .int .i64 ((j : Int) - 1) ∧ nv = .int .u64 (val ((l.take (k + 1)).drop j))) (fun _ i => (intOf i + 1).toNat)
              case atStart => exact ⟨k + 1, by omega, by go_num, by rw [List.drop_eq_nil_of_le (by simp; omega)]; rfl⟩
              case round =>
                obtain ⟨j, hj, rfl, rfl⟩ := hrel
                by_cases hj0 : 1 ≤ j
                · have hjl : j - 1 < l.length := by omega
                  have hcz := HC.out (j - 1) hjl
                  obtain ⟨z, hz⟩ : ∃ z, z = l[j - 1] := ⟨_, rfl⟩
                  rw [← hz] at hcz
                  have hst := val_back (l := l) (k := k) (j := j) hj0 hj hlt'
                  rw [← hz] at hst
                  have hle := val_drop_le (l.take (k + 1)) (j - 1)
                  obtain ⟨V, hV⟩ : ∃ V, V = val ((l.take (k + 1)).drop j) := ⟨_, rfl⟩
                  rw [← hV] at hst ⊢
                  have b1 : (V : Int) * 128 ≤ 18446744073709551615 := by have := HF.out; omega
                  have b2 : (V : Int) * 128 + (z.toNat : Int) % 128 ≤ 18446744073709551615 := by have := HF.out; omega
                  have HT := hid hst
                  have HZ := hid hz
                  have hz256 := z.toNat_lt
                  clear hst hle hz hV
                  have i0 : (0 : Int) ≤ (j : Int) - 1 := by omega
                  have i1 : (j : Int) - 1 < (n : Int) := by have := HN.out; omega
                  have i2 : ((j : Int) - 1).toNat = j - 1 := by omega
                  go_wp2
                  go_round
                  case rel => exact ⟨j - 1, by omega, by go_num, ret_u64' (by have := HT.out; omega)⟩
                  case measure => simp [intOf]; omega
                · obtain rfl : j = 0 := by omega
                  go_wp2
                  go_ret3
                  exact ⟨ret3' HR.out (by simp), rfl⟩
      · have e10 : ((k : Int) == 10) = true := by simp; omega
        clear hs
        have HR := hid (lead_ten HLD.out (by omega))
        go_wp2
        go_ret3
        exact ⟨ret3 HR.out, rfl⟩
    · have en : ((k : Int) == (n : Int)) = true := by simp; omega
      clear hs
      by_cases h10 : k < 10
      · have HR := hid (upto_end (lead_upto HLD.out h10) (by rw [HN.out]; omega))
        go_wp2
        go_ret3
        exact ⟨ret3 HR.out, rfl⟩
      · have e10 : ((k : Int) == 10) = true := by simp; omega
        have HR := hid (lead_ten HLD.out (by omega))
        go_wp2
        go_ret3
        exact ⟨ret3 HR.out, rfl⟩
end Go.Proofs.Ytmhmaodnkifcaaa
