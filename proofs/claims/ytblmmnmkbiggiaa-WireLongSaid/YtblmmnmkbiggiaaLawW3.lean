/-
  WirePrefix and WireLong, walked.
-/
import Derived.Test.YtblmmnmkbiggiaaLawW0
import Derived.Test.YtblmmnmkbiggiaaUse
namespace Go.Proofs.Ytblmmnmkbiggiaa
open Go.RowKit

theorem prefix_no (A : Option Addr) (x n c : Nat) (w : World) (h : 60 < n) :
    Calls Try.prog 9 #[.int .u64 x, .slice A n c] w fun e w' => e = .returned (.bool true) ∧ Below w.heap.size w w' := by
  go_enter Try.func9, Try.ntmps9
  go_wp2_with fail
  refine (awake_any _).mono ?_
  rintro e w1 ⟨rfl, hb1⟩
  go_wp2
  go_ret
  exact ⟨rfl, hb1⟩

set_option maxHeartbeats 1000000 in
theorem prefix_yes (A : Option Addr) (x n c : Nat) (l : List UInt8) (w : World) (hn : l.length = n) (hs : Sl w w.heap.size A (bys l)) (h1 : n ≤ 60) (hx : x < 18446744073709551616) :
    Calls Try.prog 9 #[.int .u64 x, .slice A n c] w fun e w' => e = .returned (.bool true) ∧ Below w.heap.size w w' := by
  have H := hid (put_any none 0 0 0 x [] w rfl (.inl rfl) (Nat.zero_le _) (by omega) hx)
  have HL := hid (enc_len10 x hx)
  have HU := hid (decU_cut x hx)
  have HBB := hid (decB_cut l (by omega))
  have HEL := hid (show (encB l).length ≤ 100 by
    unfold encB
    rw [List.length_append]
    have := enc_len10 l.length (by omega)
    omega)
  have HN := hid hn
  have HS := hid hs
  clear hn hs hx
  go_enter Try.func9, Try.ntmps9
  go_wp2_with fail
  refine H.out.mono ?_
  rintro e w1 ⟨A1, c1, rfl, ho1, hb1⟩
  simp only [List.nil_append, Nat.zero_add] at ho1 ⊢
  obtain ⟨p, hp⟩ : ∃ p, p = (enc x).length := ⟨_, rfl⟩
  rw [← hp] at ho1 ⊢
  have hp10 : p ≤ 10 := by have := HL.out; omega
  have hc1 := own_le ho1
  have o1 := Sl.of_own ho1
  have HP := hid hp
  have HB1 := hid hb1
  clear hp ho1 hb1
  go_wp2_with fail
  go_loop [6] (fun i => ∃ k : Nat, k ≤ p ∧ i = .int .i64 k) (fun i => p - (intOf i).toNat)
  case atStart => exact ⟨0, by omega, rfl⟩
  case round =>
    obtain ⟨k, hk, rfl⟩ := hrel
    by_cases hlt : k < p
    · have u := uint_any A1 k c1 _ ((enc x).take k) w1 (by rw [List.length_take, ← HP.out]; omega) (by omega) (by rw [bys_take]; exact o1.take k) (by omega)
      rw [HU.out k (by rw [← HP.out]; exact hlt)] at u
      have U := hid u
      clear u o1
      go_wp2_with fail
      refine U.out.mono ?_
      rintro e w2 ⟨rfl, rfl⟩
      go_wp2
      go_round
      case rel => exact ⟨k + 1, by omega, by go_num⟩
      case measure => simp [intOf]; omega
    · clear o1
      go_wp2_with fail
      refine (putB_any none A 0 0 _ n c [] l w1 rfl (.inl rfl) (Nat.le_refl _) (by omega) HN.out (HS.out.go HB1.out) (by omega)).mono ?_
      rintro e w2 ⟨A2', c2', rfl, ho2, hb2⟩
      simp only [List.nil_append, Nat.zero_add] at ho2 ⊢
      obtain ⟨q, hq⟩ : ∃ q, q = (encB l).length := ⟨_, rfl⟩
      rw [← hq] at ho2 ⊢
      have hq100 : q ≤ 100 := by have := HEL.out; omega
      have hc2 := own_le ho2
      have o2 := Sl.of_own ho2
      have HQ := hid hq
      have HB2 := hid (below_go HB1.out hb2)
      clear hq ho2 hb2 hlt
      go_wp2_with fail
      go_loopw [11] (fun i wr => ∃ k : Nat, k ≤ q ∧ i = .int .i64 k ∧ Below w2.heap.size w2 wr) (fun i _ => q - (intOf i).toNat)
      case atStart => exact ⟨0, by omega, rfl, Below.refl _ _⟩
      case round =>
        obtain ⟨j, hj, rfl, hbr⟩ := hrel
        have HBR := hid hbr
        clear hbr
        by_cases hlt : j < q
        · have v := bytes_any A2' j c2' _ ((encB l).take j) wr (by rw [List.length_take, ← HQ.out]; omega) (by omega) (by rw [bys_take]; exact (o2.go HBR.out).take j) (Nat.le_refl _) (by omega)
          rw [HBB.out j (by rw [← HQ.out]; exact hlt)] at v
          have V := hid v
          clear v o2
          go_wp2_with fail
          refine V.out.mono ?_
          rintro e w3 ⟨A3, c3, rfl, _, hb3⟩
          go_wp2
          go_roundw
          case rel => exact ⟨j + 1, by omega, by go_num, below_go HBR.out hb3⟩
          case measure => simp [intOf]; omega
        · clear o2
          go_wp2_with fail
          refine (awake_any _).mono ?_
          rintro e w9 ⟨rfl, hb9⟩
          go_wp2
          go_ret
          exact ⟨rfl, below_go (below_go HB2.out HBR.out) hb9⟩

theorem law_prefix (A : Option Addr) (x n c : Nat) (l : List UInt8) (w : World) (hn : l.length = n) (hs : Sl w w.heap.size A (bys l)) (hx : x < 18446744073709551616) :
    Calls Try.prog 9 #[.int .u64 x, .slice A n c] w fun e w' => e = .returned (.bool true) ∧ Below w.heap.size w w' := by
  by_cases h : 60 < n
  · exact prefix_no A x n c w h
  · exact prefix_yes A x n c l w hn hs (by omega) hx

set_option maxHeartbeats 1000000 in
theorem law_long (u : Nat) (w : World) (hu : u < 256) :
    Calls Try.prog 7 #[.int .u8 u] w fun e w' => e = .returned (.bool true) ∧ Below w.heap.size w w' := by
  obtain ⟨k, hk⟩ : ∃ k, k = 65534 + u % 5 := ⟨_, rfl⟩
  have hK : (65534 : Int) + (u : Int) % 5 = (k : Int) := by omega
  have hk5 : k ≤ 65538 := by omega
  have HK := hid hk
  obtain ⟨i0, hi, hz0, hz1, hz2⟩ := info_parts info_u8
  clear hk
  go_enter Try.func7, Try.ntmps7
  go_wp2_with (at_make; refine wpList_make_full _ rfl (.tmp 12) (.tmp 12) 22 rfl w.heap.size 5 i0 (.int .u8 0) 1 Try.underlying22 hi hz0 hz1 .i64 .i64 _ _ k rfl rfl rfl rfl (by rw [hz2]; omega) (by unfold maxLen; omega) (Nat.le_refl _) ?_)
  intro w1 ho1 hg1
  have hz : (madeCells #[Value.int .u8 0] k).toList = bys (List.replicate k 0) := by
    rw [toList_madeCells_one]
    simp [bys, u8v]
  rw [hz] at ho1
  obtain ⟨l, hl⟩ : ∃ l : List UInt8, l = List.replicate k 0 := ⟨_, rfl⟩
  rw [← hl] at ho1
  have hlk : l.length = k := by rw [hl]; simp
  have hb1 : Below w.heap.size w w1 := (Below.refl _ _).grown hg1 (Nat.le_refl _) (by intro k hk; cases hk)
  have P := hid (rputB_any none _ 0 0 _ k k [] l w1 rfl (.inl rfl) (Nat.le_refl _) (by omega) hlk (Sl.of_own ho1) (by omega))
  have HLK := hid hlk
  have HEL := hid (show (encB l).length ≤ 65600 by
    unfold encB
    rw [List.length_append]
    have := enc_len10 l.length (by omega)
    omega)
  have HB1 := hid hb1
  have HLG := hid (decB_long l [])
  have HBK := hid (decB_encB l [])
  clear hz hl hlk hb1 ho1 hg1
  go_wp2_with fail
  refine P.out.mono ?_
  rintro e w2 ⟨A2, c2, rfl, ho2, hb2⟩
  simp only [List.nil_append, Nat.zero_add] at ho2 ⊢
  obtain ⟨q, hq⟩ : ∃ q, q = (encB l).length := ⟨_, rfl⟩
  rw [← hq] at ho2 ⊢
  have hqs : q ≤ 65600 := by have := HEL.out; omega
  have v := bytes_any A2 q c2 _ (encB l) w2 hq.symm (own_le ho2) (Sl.of_own ho2) (Nat.le_refl _) (by omega)
  have HQ := hid hq
  have HB2 := hid (below_go HB1.out hb2)
  clear hq ho2 hb2
  by_cases hbig : 65536 < k
  · have e := HLG.out (by rw [HLK.out]; exact hbig) (by rw [HLK.out]; omega)
    rw [List.append_nil] at e
    rw [e] at v
    have V := hid v
    clear e v
    go_wp2_with fail
    refine V.out.mono ?_
    rintro e w3 ⟨A3, c3, rfl, _, hb3⟩
    have HB3 := hid (below_go HB2.out hb3)
    clear hb3
    go_wp2_with fail
    refine (awake_any _).mono ?_
    rintro e w9 ⟨rfl, hb9⟩
    go_wp2
    go_ret
    exact ⟨rfl, below_go HB3.out hb9⟩
  · have e := HBK.out (by rw [HLK.out]; omega)
    rw [List.append_nil] at e
    rw [e, ← HQ.out] at v
    unfold OwnBytes3 at v
    simp only [HLK.out] at v
    have V := hid v
    clear e v
    go_wp2_with fail
    refine V.out.mono ?_
    rintro e w3 ⟨A3, c3, rfl, _, hb3⟩
    have HB3 := hid (below_go HB2.out hb3)
    clear hb3
    go_wp2_with fail
    refine (awake_any _).mono ?_
    rintro e w9 ⟨rfl, hb9⟩
    go_wp2
    go_ret
    exact ⟨rfl, below_go HB3.out hb9⟩
end Go.Proofs.Ytblmmnmkbiggiaa
