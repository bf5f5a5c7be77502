/-
  What slices.Clone at bytes, wire.PutUint and the reference's PutUint compute: a new row with the encoding behind the bytes.
-/
import Derived.Test.YtmhmaodnkifcaaaMem
import Derived.Test.YtmhmaodnkifcaaaEnc
import Derived.WalkLawsBesides
import Derived.WalkSpells
import Derived.Outline
import Derived.Laws.BitsAllLaws
namespace Go.Proofs.Ytmhmaodnkifcaaa
open Go.RowKit

/-- What a function returns that gives bytes of its own. -/
def OwnBytes (w : World) (l : List UInt8) (n : Nat) (e : Ending) (w' : World) : Prop :=
  ∃ A c, e = .returned (.slice A n c) ∧ w'.ownsRow w.heap.size 5 1 (.slice A n c) n (bys l) ∧ Below w.heap.size w w'

theorem clone_any (A : Option Addr) (n c B : Nat) (l : List UInt8) (w : World) (hn : l.length = n) (hs : Sl w B A (bys l)) (hB : B ≤ w.heap.size) (hm : n ≤ 70368744177664) :
    Calls Try.prog 41 #[.slice A n c] w (OwnBytes w l n) := by
  have HN := hid hn
  have heq := fun w => Lib.run_eql_slice_nil (P := Try.prog) w 38 5 A n c 0 0 Try.underlying38
  cases A with
  | none =>
    have h0 : n = 0 := by
      rcases hs with h | ⟨_, _, h, _⟩
      · have := congrArg List.length h
        rw [bys_length, List.length_nil] at this
        omega
      · cases h
    have hl : l = [] := List.eq_nil_of_length_eq_zero (by omega)
    subst h0
    clear hn hs
    go_enter Try.func41, Try.ntmps41
    go_wp2
    go_ret
    exact ⟨none, 0, rfl, by rw [hl]; exact World.ownsRow_nil _ _ _ _, Below.refl _ _⟩
  | some ad =>
    have hs1 := hs.below (((Below.refl w.heap.size w).alloc (Nat.le_refl _) (.cells #[] 5)).mono hB)
    clear hn hs
    go_enter Try.func41, Try.ntmps41
    go_wp2_with (at_builtin; refine wp_app8 rfl (.tmp 5) (.tmp 6) rfl w.heap.size (some ⟨w.heap.size, 0, none⟩) 0 0 [] rfl (own_empty w _ _ (Nat.le_refl _)) (some ad) B n c l rfl HN.out hs1 n (by omega) (by omega) (by simp) ?_)
    intro A' c' w1 hown hg
    have HB := hid (((Below.refl w.heap.size w).alloc (Nat.le_refl _) (.cells #[] 5)).grown hg (by simp) (by intro k hk; simp [Value.ownBlock] at hk; omega))
    have HO := hid hown
    clear hown hg hs1 heq
    go_wp2
    go_ret
    exact ⟨A', c', rfl, HO.out, HB.out⟩

theorem or128 : ∀ x : Nat, x < 256 → x ||| 128 = x % 128 + 128 := by decide +kernel
theorem byte_more (m : Nat) : bits .or .u8 ((m : Int) % 256) 128 = ((UInt8.ofNat (m % 128 + 128)).toNat : Int) := by
  have h : m % 256 < 256 := Nat.mod_lt _ (by decide)
  have e := u8_or_nat (m % 256) 128 h (by decide)
  rw [or128 _ h] at e
  rw [show ((m : Int) % 256) = ((m % 256 : Nat) : Int) from by omega]
  rw [show (128 : Int) = ((128 : Nat) : Int) from rfl, e]
  simp [UInt8.toNat_ofNat']
  omega
theorem byte_of (m : Nat) : Value.int .u8 ((m : Int) % 256) = u8v (UInt8.ofNat m) := by
  unfold u8v
  simp

/-- The encoding so far and what is left of the number. -/
theorem enc_next {m : Nat} (h : 128 ≤ m) : enc m = UInt8.ofNat (m % 128 + 128) :: enc (m / 128) := enc_big (by omega)

set_option maxRecDepth 100000 in
set_option maxHeartbeats 1000000 in
theorem put_any (A : Option Addr) (n c B x : Nat) (l : List UInt8) (w : World) (hn : l.length = n) (hs : Sl w B A (bys l)) (hB : B ≤ w.heap.size) (hm : n ≤ 35184372088832) (hx : x < 18446744073709551616) :
    Calls Try.prog 63 #[.slice A n c, .int .u64 x] w (OwnBytes w (l ++ enc x) (n + (enc x).length)) := by
  have H := hid (clone_any A n c B l w hn hs hB (by omega))
  have HL := hid (enc_len10 x hx)
  have HN := hid hn
  have HX := hid hx
  clear hn hs hx
  go_enter Try.func63, Try.ntmps63
  go_wp2_with fail
  refine H.out.mono ?_
  rintro e w1 ⟨A1, c1, rfl, ho1, hb1⟩
  go_wp2
  go_loopw [1, 5] (fun xv v wr => ∃ (m k : Nat) (A' : Option Addr) (c' : Nat) (pre : List UInt8), m ≤ x ∧ xv = .int .u64 m ∧ v = .slice A' k c' ∧ pre ++ enc m = enc x ∧ k = n + pre.length ∧
      wr.ownsRow w.heap.size 5 1 (.slice A' k c') k (bys (l ++ pre)) ∧ Below w.heap.size w wr) (fun xv _ _ => (intOf xv).toNat)
  case atStart => exact ⟨x, n, A1, c1, [], Nat.le_refl _, rfl, rfl, rfl, rfl, by simpa using ho1, hb1⟩
  case round =>
    obtain ⟨m, k, A', c', pre, hmx, rfl, rfl, hpre, hk, hown, hb⟩ := hrel
    have hklen : k ≤ n + 10 := by
      have := congrArg List.length hpre
      have := HL.out
      simp at *
      omega
    have HP := hid hpre
    have HK := hid hk
    have hsz := hb.size
    have HB := hid hb
    have HO := hid hown
    clear hpre hk hb hown ho1 hb1
    by_cases h128 : 128 ≤ m
    · have hbm := byte_more m
      obtain ⟨y, hy⟩ : ∃ y, y = UInt8.ofNat (m % 128 + 128) := ⟨_, rfl⟩
      rw [← hy] at hbm
      have HE := hid (enc_next h128)
      rw [← hy] at HE
      clear hy
      go_wp2_with (at_builtin; refine wp_app8 rfl (.tmp 10) (.tmp 14) rfl w.heap.size A' k c' (l ++ pre) rfl (HO.out.alloc _) (some ⟨wr.heap.size, 0, none⟩) (wr.heap.size + 1) 1 1 [y] rfl rfl (Sl.new wr #[_] _ _) (k + 1) rfl (by omega) (by simp; omega) ?_)
      intro A2 c2 w2 hown2 hg2
      have HB2 := hid ((HB.out.alloc hsz (.cells #[.int .u8 (y.toNat : Int)] 5)).grown hg2 (by simp; omega) (own_lt HO.out))
      have HO2 := hid hown2
      clear hown2 hg2 hbm
      go_wp2
      go_roundw
      case rel => exact ⟨m / 128, k + 1, A2, c2, pre ++ [y], by omega, by go_num, rfl, by rw [List.append_assoc, List.singleton_append, ← HE.out, HP.out], by have := HK.out; simp; omega, by have := HO2.out; simpa using this, HB2.out⟩
      case measure => simp [intOf]; omega
    · obtain ⟨y, rfl⟩ : ∃ y : UInt8, m = y.toNat := ⟨UInt8.ofNat m, by simp [UInt8.toNat_ofNat']; omega⟩
      have HE := hid (show enc y.toNat = [y] by rw [enc_small (by omega)]; simp)
      go_wp2_with (at_builtin; refine wp_app8 rfl (.tmp 18) (.tmp 21) rfl w.heap.size A' k c' (l ++ pre) rfl (HO.out.alloc _) (some ⟨wr.heap.size, 0, none⟩) (wr.heap.size + 1) 1 1 [y] rfl rfl (Sl.new wr #[_] _ _) (k + 1) rfl (by omega) (by simp; omega) ?_)
      intro A2 c2 w2 hown2 hg2
      have HB2 := hid ((HB.out.alloc hsz (.cells #[.int .u8 (y.toNat : Int)] 5)).grown hg2 (by simp; omega) (own_lt HO.out))
      have HO2 := hid hown2
      clear hown2 hg2
      go_wp2
      go_ret
      have e : n + (enc x).length = k + 1 := by rw [← HP.out, HE.out, HK.out]; simp; omega
      have e2 : l ++ enc x = l ++ pre ++ [y] := by rw [← HP.out, HE.out, List.append_assoc]
      rw [e, e2]
      exact ⟨A2, c2, rfl, by have := HO2.out; simpa using this, HB2.out⟩
theorem rbyte_more (m : Nat) : (m : Int) % 128 + 128 = ((UInt8.ofNat (m % 128 + 128)).toNat : Int) := by
  simp [UInt8.toNat_ofNat']
  omega

set_option maxRecDepth 100000 in
set_option maxHeartbeats 1000000 in
theorem rput_any (A : Option Addr) (n c B x : Nat) (l : List UInt8) (w : World) (hn : l.length = n) (hs : Sl w B A (bys l)) (hB : B ≤ w.heap.size) (hm : n ≤ 35184372088832) (hx : x < 18446744073709551616) :
    Calls Try.prog 51 #[.slice A n c, .int .u64 x] w (OwnBytes w (l ++ enc x) (n + (enc x).length)) := by
  have hs1 := hs.below (((Below.refl w.heap.size w).alloc (Nat.le_refl _) (.cells #[] 5)).mono hB)
  have HL := hid (enc_len10 x hx)
  have HN := hid hn
  have HX := hid hx
  clear hn hs hx
  go_enter Try.func51, Try.ntmps51
  go_wp2_with (at_builtin; refine wp_app8 rfl (.tmp 6) (.tmp 7) rfl w.heap.size (some ⟨w.heap.size, 0, none⟩) 0 0 [] rfl (own_empty w _ _ (Nat.le_refl _)) A B n c l rfl HN.out hs1 n (by omega) (by omega) (by simp) ?_)
  intro A1 c1 w1 ho1 hg1
  have hb1 := ((Below.refl w.heap.size w).alloc (Nat.le_refl _) (.cells #[] 5)).grown hg1 (by simp) (by intro k hk; simp [Value.ownBlock] at hk; omega)
  clear hg1 hs1
  go_wp2
  go_loopw [1, 5] (fun xv v wr => ∃ (m k : Nat) (A' : Option Addr) (c' : Nat) (pre : List UInt8), m ≤ x ∧ xv = .int .u64 m ∧ v = .slice A' k c' ∧ pre ++ enc m = enc x ∧ k = n + pre.length ∧
      wr.ownsRow w.heap.size 5 1 (.slice A' k c') k (bys (l ++ pre)) ∧ Below w.heap.size w wr) (fun xv _ _ => (intOf xv).toNat)
  case atStart => exact ⟨x, n, A1, c1, [], Nat.le_refl _, rfl, rfl, rfl, rfl, by simpa using ho1, hb1⟩
  case round =>
    obtain ⟨m, k, A', c', pre, hmx, rfl, rfl, hpre, hk, hown, hb⟩ := hrel
    have hklen : k ≤ n + 10 := by
      have := congrArg List.length hpre
      have := HL.out
      simp at *
      omega
    have HP := hid hpre
    have HK := hid hk
    have hsz := hb.size
    have HB := hid hb
    have HO := hid hown
    clear hpre hk hb hown ho1 hb1
    by_cases h128 : 128 ≤ m
    · have hbm := rbyte_more m
      have hmb : (m : Int) ≤ 18446744073709551615 := by have := HX.out; omega
      obtain ⟨y, hy⟩ : ∃ y, y = UInt8.ofNat (m % 128 + 128) := ⟨_, rfl⟩
      rw [← hy] at hbm
      have HE := hid (enc_next h128)
      rw [← hy] at HE
      clear hy
      go_wp2_with (at_builtin; refine wp_app8 rfl (.tmp 11) (.tmp 16) rfl w.heap.size A' k c' (l ++ pre) rfl (HO.out.alloc _) (some ⟨wr.heap.size, 0, none⟩) (wr.heap.size + 1) 1 1 [y] rfl rfl (Sl.new wr #[_] _ _) (k + 1) rfl (by omega) (by simp; omega) ?_)
      intro A2 c2 w2 hown2 hg2
      have HB2 := hid ((HB.out.alloc hsz (.cells #[.int .u8 (y.toNat : Int)] 5)).grown hg2 (by simp; omega) (own_lt HO.out))
      have HO2 := hid hown2
      clear hown2 hg2 hbm
      go_wp2
      go_roundw
      case rel => exact ⟨m / 128, k + 1, A2, c2, pre ++ [y], by omega, by go_num, rfl, by rw [List.append_assoc, List.singleton_append, ← HE.out, HP.out], by have := HK.out; simp; omega, by have := HO2.out; simpa using this, HB2.out⟩
      case measure => simp [intOf]; omega
    · obtain ⟨y, rfl⟩ : ∃ y : UInt8, m = y.toNat := ⟨UInt8.ofNat m, by simp [UInt8.toNat_ofNat']; omega⟩
      have HE := hid (show enc y.toNat = [y] by rw [enc_small (by omega)]; simp)
      go_wp2_with (at_builtin; refine wp_app8 rfl (.tmp 20) (.tmp 23) rfl w.heap.size A' k c' (l ++ pre) rfl (HO.out.alloc _) (some ⟨wr.heap.size, 0, none⟩) (wr.heap.size + 1) 1 1 [y] rfl rfl (Sl.new wr #[_] _ _) (k + 1) rfl (by omega) (by simp; omega) ?_)
      intro A2 c2 w2 hown2 hg2
      have HB2 := hid ((HB.out.alloc hsz (.cells #[.int .u8 (y.toNat : Int)] 5)).grown hg2 (by simp; omega) (own_lt HO.out))
      have HO2 := hid hown2
      clear hown2 hg2
      go_wp2
      go_ret
      have e : n + (enc x).length = k + 1 := by rw [← HP.out, HE.out, HK.out]; simp; omega
      have e2 : l ++ enc x = l ++ pre ++ [y] := by rw [← HP.out, HE.out, List.append_assoc]
      rw [e, e2]
      exact ⟨A2, c2, rfl, by have := HO2.out; simpa using this, HB2.out⟩

end Go.Proofs.Ytmhmaodnkifcaaa
