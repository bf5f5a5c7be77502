/-
  What wire.Uint and the reference's Uint compute: the plain decoding.
-/
import Derived.Test.YtmhmaodnkifcaaaWireP
namespace Go.Proofs.Ytmhmaodnkifcaaa
open Go.RowKit

theorem ret3 {l : List UInt8} {a b c : Nat} (h : decU l = (a, b, c)) : Ending.returned (.tuple #[.int .u64 (a : Int), .int .i64 (b : Int), .int .i64 (c : Int)]) = Ending.returned (.tuple #[.int .u64 (decU l).1, .int .i64 (decU l).2.1, .int .i64 (decU l).2.2]) := by rw [h]
theorem ret3' {l : List UInt8} {x : Int} {a b : Nat} (h : decU l = (a, b + 1, 0)) (hx : x = a) : Ending.returned (.tuple #[.int .u64 x, .int .i64 ((b : Int) + 1), .int .i64 0]) = Ending.returned (.tuple #[.int .u64 (decU l).1, .int .i64 (decU l).2.1, .int .i64 (decU l).2.2]) := by
  rw [h, hx]; rfl
theorem ret_u64' {a b : Int} (h : a = b) : Value.int .u64 a = Value.int .u64 b := by rw [h]

theorem and127 : ∀ x : Nat, x < 256 → x &&& 127 = x % 128 := by decide +kernel
/-- A group is laid above the groups before. -/
theorem or_acc (p : List UInt8) (k : Nat) (y : UInt8) (hp : val p < 128 ^ k) {v : Nat} (hv : val p + 128 ^ k * (y.toNat % 128) = v) (hlt : v < 18446744073709551616) :
    bits .or .u64 (val p : Int) (IntKind.u64.wrap (IntKind.u64.wrap (bits .and .u8 (y.toNat : Int) 127) * 2 ^ (7 * k))) = (v : Int) := by
  have h1 : bits .and .u8 (y.toNat : Int) 127 = ((y.toNat % 128 : Nat) : Int) := by
    have := u8_and_nat y.toNat 127 y.toNat_lt (by decide)
    rw [and127 _ y.toNat_lt] at this
    exact this
  have e : (2 : Nat) ^ (7 * k) = 128 ^ k := by rw [Nat.pow_mul]
  have h2 : ((y.toNat % 128 : Nat) : Int) * 2 ^ (7 * k) = ((128 ^ k * (y.toNat % 128) : Nat) : Int) := by
    rw [Nat.mul_comm (128 ^ k), ← e]
    simp
  have h0 : IntKind.u64.wrap ((y.toNat % 128 : Nat) : Int) = ((y.toNat % 128 : Nat) : Int) := by rw [IntKind.wrap_u64]; omega
  rw [h1, h0, h2, IntKind.wrap_u64]
  have h3 : ((128 ^ k * (y.toNat % 128) : Nat) : Int) % 18446744073709551616 = ((128 ^ k * (y.toNat % 128) : Nat) : Int) := by omega
  rw [h3, u64_or_nat _ _ (by omega) (by omega)]
  congr 1
  rw [Nat.or_comm, nat_join (7 * k) _ _ (by rw [e]; exact Nat.mul_mod_right _ _) (by rw [e]; exact hp)]
  omega

set_option maxRecDepth 100000 in
set_option maxHeartbeats 4000000 in
theorem uint_short (A : Option Addr) (n c B : Nat) (l : List UInt8) (w : World) (hn : l.length = n) (hc : n ≤ c) (hs : Sl w B A (bys l)) (hm : n ≤ 10) :
    Calls Try.prog 65 #[.slice A n c] w fun e w' => e = .returned (.tuple #[.int .u64 (decU l).1, .int .i64 (decU l).2.1, .int .i64 (decU l).2.2]) ∧ w = w' := by
  have HN := hid hn
  clear hn
  go_enter Try.func65, Try.ntmps65
  go_wp2_with fail
  go_loop [5, 14] (fun nv i => ∃ k : Nat, k ≤ n ∧ k ≤ 9 ∧ i = .int .i64 k ∧ nv = .int .u64 (val (l.take k)) ∧ Upto l k) (fun _ i => 10 - (intOf i).toNat)
  case atStart => exact ⟨0, by omega, by omega, rfl, rfl, upto_zero l⟩
  case round =>
    obtain ⟨k, hk, hk9, rfl, rfl, hup⟩ := hrel
    have HU := hid hup
    clear hup
    by_cases hlt : k < n
    · have hlt' : k < l.length := by rw [HN.out]; omega
      obtain ⟨b, off, rfl, _, g⟩ := hs.byte hlt'
      obtain ⟨y, hy⟩ : ∃ y, y = l[k] := ⟨_, rfl⟩
      rw [← hy] at g
      have HY := hid hy
      have h256 := y.toNat_lt
      clear hs hy
      by_cases h9 : k = 9
      · have e9 : ((k : Int) == 9) = true := by simp [h9]
        have H9 := hid h9
        have hk0 : 0 < k := by omega
        clear h9
        by_cases h1 : 1 < y.toNat
        · have HR := hid (upto_bad HU.out hlt' (.inl ⟨H9.out, by rw [← HY.out]; exact h1⟩))
          go_wp2
          go_ret3
          exact ⟨ret3 HR.out, rfl⟩
        · by_cases h0 : y.toNat = 0
          · have e0 : ((y.toNat : Int) == 0) = true := by simp [h0]
            have H0 := hid h0
            clear h0
            have HR := hid (upto_bad HU.out hlt' (.inr ⟨hk0, by rw [← HY.out]; exact H0.out⟩))
            go_wp2
            go_ret3
            exact ⟨ret3 HR.out, rfl⟩
          · have e0 : ((y.toNat : Int) == 0) = false := by simp; omega
            have h128 : y.toNat < 128 := by omega
            have HR := hid (upto_last HU.out hlt' (by rw [← HY.out]; omega) (by rw [← HY.out]; exact h128))
            have HO := hid (or_acc (l.take k) k y (val_take_lt l k) (by rw [HY.out]; exact upto_acc hlt') (val_fits hlt' (by omega) (by intro _; rw [← HY.out]; omega)))
            go_wp2
            go_ret3
            exact ⟨ret3' HR.out HO.out, rfl⟩
      · have e9 : ((k : Int) == 9) = false := by simp; omega
        by_cases hk0 : 0 < k
        · by_cases h0 : y.toNat = 0
          · have e0 : ((y.toNat : Int) == 0) = true := by simp [h0]
            have H0 := hid h0
            clear h0
            have HR := hid (upto_bad HU.out hlt' (.inr ⟨hk0, by rw [← HY.out]; exact H0.out⟩))
            go_wp2
            go_ret3
            exact ⟨ret3 HR.out, rfl⟩
          · have e0 : ((y.toNat : Int) == 0) = false := by simp; omega
            have HO := hid (or_acc (l.take k) k y (val_take_lt l k) (by rw [HY.out]; exact upto_acc hlt') (val_fits hlt' (by omega) (by intro _; omega)))
            by_cases h128 : y.toNat < 128
            · have HR := hid (upto_last HU.out hlt' (by rw [← HY.out]; omega) (by rw [← HY.out]; exact h128))
              go_wp2
              go_ret3
              exact ⟨ret3' HR.out HO.out, rfl⟩
            · have HR := hid (upto_succ HU.out hlt' h9 (by rw [← HY.out]; omega))
              go_wp2
              go_round
              case rel => exact ⟨k + 1, by omega, by omega, by go_num, ret_u64' HO.out, HR.out⟩
              case measure => simp [intOf]; omega
        · have HO := hid (or_acc (l.take k) k y (val_take_lt l k) (by rw [HY.out]; exact upto_acc hlt') (val_fits hlt' (by omega) (by intro _; omega)))
          by_cases h128 : y.toNat < 128
          · have HR := hid (upto_last HU.out hlt' (by rw [← HY.out]; omega) (by rw [← HY.out]; exact h128))
            go_wp2
            go_ret3
            exact ⟨ret3' HR.out HO.out, rfl⟩
          · have HR := hid (upto_succ HU.out hlt' h9 (by rw [← HY.out]; omega))
            go_wp2
            go_round
            case rel => exact ⟨k + 1, by omega, by omega, by go_num, ret_u64' HO.out, HR.out⟩
            case measure => simp [intOf]; omega
    · have HR := hid (upto_end HU.out (by rw [HN.out]; omega))
      go_wp2
      go_ret3
      exact ⟨ret3 HR.out, rfl⟩

set_option maxRecDepth 100000 in
set_option maxHeartbeats 4000000 in
theorem uint_long (A : Option Addr) (n c B : Nat) (l : List UInt8) (w : World) (hn : l.length = n) (hc : n ≤ c) (hs : Sl w B A (bys l)) (hm : n ≤ 70368744177664) (h10 : 10 < n) :
    Calls Try.prog 65 #[.slice A n c] w fun e w' => e = .returned (.tuple #[.int .u64 (decU l).1, .int .i64 (decU l).2.1, .int .i64 (decU l).2.2]) ∧ w = w' := by
  have HN := hid hn
  clear hn
  go_enter Try.func65, Try.ntmps65
  go_wp2_with fail
  go_loop [5, 14] (fun nv i => ∃ k : Nat, k ≤ 10 ∧ k ≤ 9 ∧ i = .int .i64 k ∧ nv = .int .u64 (val (l.take k)) ∧ Upto l k) (fun _ i => 10 - (intOf i).toNat)
  case atStart => exact ⟨0, by omega, by omega, rfl, rfl, upto_zero l⟩
  case round =>
    obtain ⟨k, hk, hk9, rfl, rfl, hup⟩ := hrel
    have HU := hid hup
    clear hup
    by_cases hlt : k < 10
    · have hlt' : k < l.length := by rw [HN.out]; omega
      obtain ⟨b, off, rfl, _, g⟩ := hs.byte hlt'
      obtain ⟨y, hy⟩ : ∃ y, y = l[k] := ⟨_, rfl⟩
      rw [← hy] at g
      have HY := hid hy
      have h256 := y.toNat_lt
      clear hs hy
      by_cases h9 : k = 9
      · have e9 : ((k : Int) == 9) = true := by simp [h9]
        have H9 := hid h9
        have hk0 : 0 < k := by omega
        clear h9
        by_cases h1 : 1 < y.toNat
        · have HR := hid (upto_bad HU.out hlt' (.inl ⟨H9.out, by rw [← HY.out]; exact h1⟩))
          go_wp2
          go_ret3
          exact ⟨ret3 HR.out, rfl⟩
        · by_cases h0 : y.toNat = 0
          · have e0 : ((y.toNat : Int) == 0) = true := by simp [h0]
            have H0 := hid h0
            clear h0
            have HR := hid (upto_bad HU.out hlt' (.inr ⟨hk0, by rw [← HY.out]; exact H0.out⟩))
            go_wp2
            go_ret3
            exact ⟨ret3 HR.out, rfl⟩
          · have e0 : ((y.toNat : Int) == 0) = false := by simp; omega
            have h128 : y.toNat < 128 := by omega
            have HR := hid (upto_last HU.out hlt' (by rw [← HY.out]; omega) (by rw [← HY.out]; exact h128))
            have HO := hid (or_acc (l.take k) k y (val_take_lt l k) (by rw [HY.out]; exact upto_acc hlt') (val_fits hlt' (by omega) (by intro _; rw [← HY.out]; omega)))
            go_wp2
            go_ret3
            exact ⟨ret3' HR.out HO.out, rfl⟩
      · have e9 : ((k : Int) == 9) = false := by simp; omega
        by_cases hk0 : 0 < k
        · by_cases h0 : y.toNat = 0
          · have e0 : ((y.toNat : Int) == 0) = true := by simp [h0]
            have H0 := hid h0
            clear h0
            have HR := hid (upto_bad HU.out hlt' (.inr ⟨hk0, by rw [← HY.out]; exact H0.out⟩))
            go_wp2
            go_ret3
            exact ⟨ret3 HR.out, rfl⟩
          · have e0 : ((y.toNat : Int) == 0) = false := by simp; omega
            have HO := hid (or_acc (l.take k) k y (val_take_lt l k) (by rw [HY.out]; exact upto_acc hlt') (val_fits hlt' (by omega) (by intro _; omega)))
            by_cases h128 : y.toNat < 128
            · have HR := hid (upto_last HU.out hlt' (by rw [← HY.out]; omega) (by rw [← HY.out]; exact h128))
              go_wp2
              go_ret3
              exact ⟨ret3' HR.out HO.out, rfl⟩
            · have HR := hid (upto_succ HU.out hlt' h9 (by rw [← HY.out]; omega))
              go_wp2
              go_round
              case rel => exact ⟨k + 1, by omega, by omega, by go_num, ret_u64' HO.out, HR.out⟩
              case measure => simp [intOf]; omega
        · have HO := hid (or_acc (l.take k) k y (val_take_lt l k) (by rw [HY.out]; exact upto_acc hlt') (val_fits hlt' (by omega) (by intro _; omega)))
          by_cases h128 : y.toNat < 128
          · have HR := hid (upto_last HU.out hlt' (by rw [← HY.out]; omega) (by rw [← HY.out]; exact h128))
            go_wp2
            go_ret3
            exact ⟨ret3' HR.out HO.out, rfl⟩
          · have HR := hid (upto_succ HU.out hlt' h9 (by rw [← HY.out]; omega))
            go_wp2
            go_round
            case rel => exact ⟨k + 1, by omega, by omega, by go_num, ret_u64' HO.out, HR.out⟩
            case measure => simp [intOf]; omega
    · omega

theorem uint_any (A : Option Addr) (n c B : Nat) (l : List UInt8) (w : World) (hn : l.length = n) (hc : n ≤ c) (hs : Sl w B A (bys l)) (hm : n ≤ 70368744177664) :
    Calls Try.prog 65 #[.slice A n c] w fun e w' => e = .returned (.tuple #[.int .u64 (decU l).1, .int .i64 (decU l).2.1, .int .i64 (decU l).2.2]) ∧ w = w' := by
  by_cases h : n ≤ 10
  · exact uint_short A n c B l w hn hc hs h
  · exact uint_long A n c B l w hn hc hs hm (by omega)
end Go.Proofs.Ytmhmaodnkifcaaa
