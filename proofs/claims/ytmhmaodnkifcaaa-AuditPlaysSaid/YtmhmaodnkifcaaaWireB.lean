/-
  What wire.Bytes and the reference's Bytes compute: the plain decoding, a new row.
-/
import Derived.Test.YtmhmaodnkifcaaaWireR
import Derived.Test.YtmhmaodnkifcaaaWireQ
namespace Go.Proofs.Ytmhmaodnkifcaaa
open Go.RowKit

/-- What Bytes returns. -/
def OwnBytes3 (w : World) (r : List UInt8 × Nat × Nat) (e : Ending) (w' : World) : Prop :=
  ∃ A c, e = .returned (.tuple #[.slice A r.1.length c, .int .i64 r.2.1, .int .i64 r.2.2]) ∧ w'.ownsRow w.heap.size 5 1 (.slice A r.1.length c) r.1.length (bys r.1) ∧ Below w.heap.size w w'

theorem own3_nil (w : World) (s e : Nat) : OwnBytes3 w ([], s, e) (.returned (.tuple #[.slice none 0 0, .int .i64 s, .int .i64 e])) w :=
  ⟨none, 0, rfl, World.ownsRow_nil _ _ _ _, Below.refl _ _⟩

set_option maxHeartbeats 1000000 in
theorem bytes_any (A : Option Addr) (n c B : Nat) (l : List UInt8) (w : World) (hn : l.length = n) (hc : n ≤ c) (hs : Sl w B A (bys l)) (hB : B ≤ w.heap.size) (hm : n ≤ 35184372088832) :
    Calls Try.prog 43 #[.slice A n c] w (OwnBytes3 w (decB l)) := by
  have h := uint_any A n c B l w hn hc hs (by omega)
  have hsz := decU_size l
  have hd := @decB_err l
  have hd1 := @decB_big l
  have hd2 := @decB_short l
  have hd3 := @decB_ok l
  obtain ⟨r, hr⟩ : ∃ r, r = decU l := ⟨_, rfl⟩
  rw [← hr] at h hsz hd hd1 hd2 hd3
  obtain ⟨N, S, E⟩ := r
  simp only at h hsz hd hd1 hd2 hd3
  rw [hn] at hsz hd2 hd3
  have H := hid h
  have HN := hid hn
  clear h hr hn
  by_cases hE : E = 0
  · have e0 : ((E : Int) != 0) = false := by simp [hE]
    by_cases h1 : 65536 < N
    · have HR := hid (hd1 hE h1)
      clear hd hd1 hd2 hd3 hE hs
      go_enter Try.func43, Try.ntmps43
      go_wp2_with fail
      refine H.out.mono ?_
      rintro e w' ⟨rfl, rfl⟩
      go_wp2
      go_ret3
      rw [HR.out]
      exact own3_nil _ _ _
    · by_cases h2 : n - S < N
      · have HR := hid (hd2 hE h1 h2)
        clear hd hd1 hd2 hd3 hE hs
        go_enter Try.func43, Try.ntmps43
        go_wp2_with fail
        refine H.out.mono ?_
        rintro e w' ⟨rfl, rfl⟩
        have i1 : ((n - S : Nat) : Int) < N := by omega
        by_cases hcS : c = S
        all_goals
          go_wp2
          go_ret3
          rw [HR.out]
          exact own3_nil _ _ _
      · have HR := hid (hd3 hE h1 h2)
        have hcut := hs.cut (k := S) (c := c) (by rw [bys_length, HN.out]; exact hc) 1 rfl
        rw [← bys_drop] at hcut
        have htk := hcut.take N
        rw [← bys_take] at htk
        clear hd hd1 hd2 hd3 hE hs hcut
        go_enter Try.func43, Try.ntmps43
        go_wp2_with fail
        refine H.out.mono ?_
        rintro e w' ⟨rfl, rfl⟩
        by_cases hcS : c = S
        · rw [if_pos hcS] at htk
          subst hcS
          obtain rfl : N = 0 := by omega
          have HC := hid (clone_any A 0 0 B ((l.drop c).take 0) w (by rw [List.length_take, List.length_drop, HN.out]; omega) htk hB (by omega))
          clear htk
          go_wp2_with fail
          refine HC.out.mono ?_
          rintro e w1 ⟨A1, c1, rfl, ho1, hb1⟩
          have HB := hid hb1
          have HO := hid ho1
          clear hb1 ho1
          go_wp2
          go_ret3
          have hlen : ((l.drop c).take 0).length = 0 := by rw [List.length_take, List.length_drop, HN.out]; omega
          rw [HR.out]
          refine ⟨A1, c1, ?_, ?_, HB.out⟩
          · simp only [hlen]; rfl
          · simp only [hlen]; exact HO.out
        · rw [if_neg hcS] at htk
          simp only [Nat.mul_one] at htk
          have HC := hid (clone_any _ N (c - S) B ((l.drop S).take N) w (by rw [List.length_take, List.length_drop, HN.out]; omega) htk hB (by omega))
          clear htk
          go_wp2_with fail
          refine HC.out.mono ?_
          rintro e w1 ⟨A1, c1, rfl, ho1, hb1⟩
          have HB := hid hb1
          have HO := hid ho1
          clear hb1 ho1
          go_wp2
          go_ret3
          have hlen : ((l.drop S).take N).length = N := by rw [List.length_take, List.length_drop, HN.out]; omega
          rw [HR.out]
          refine ⟨A1, c1, ?_, ?_, HB.out⟩
          · simp only [hlen]; rfl
          · simp only [hlen]; exact HO.out
  · have e0 : ((E : Int) != 0) = true := by simp; omega
    have HR := hid (hd hE)
    clear hd hd1 hd2 hd3 hE hs
    go_enter Try.func43, Try.ntmps43
    go_wp2_with fail
    refine H.out.mono ?_
    rintro e w' ⟨rfl, rfl⟩
    go_wp2
    go_ret3
    rw [HR.out]
    exact own3_nil _ _ _

set_option maxHeartbeats 1000000 in
theorem rbytes_any (A : Option Addr) (n c B : Nat) (l : List UInt8) (w : World) (hn : l.length = n) (hc : n ≤ c) (hs : Sl w B A (bys l)) (hB : B ≤ w.heap.size) (hm : n ≤ 35184372088832) :
    Calls Try.prog 46 #[.slice A n c] w (OwnBytes3 w (decB l)) := by
  have hal := (Below.refl w.heap.size w).alloc (Nat.le_refl _) (.cells #[] 5)
  have h := ruint_any A n c B l w hn hs (by omega)
  have hsz := decU_size l
  have hd := @decB_err l
  have hd1 := @decB_big l
  have hd2 := @decB_short l
  have hd3 := @decB_ok l
  obtain ⟨r, hr⟩ : ∃ r, r = decU l := ⟨_, rfl⟩
  rw [← hr] at h hsz hd hd1 hd2 hd3
  obtain ⟨N, S, E⟩ := r
  simp only at h hsz hd hd1 hd2 hd3
  rw [hn] at hsz hd2 hd3
  have H := hid h
  have HN := hid hn
  clear h hr hn
  by_cases hE : E = 0
  · have e0 : ((E : Int) != 0) = false := by simp [hE]
    by_cases h1 : 65536 < N
    · have HR := hid (hd1 hE h1)
      clear hd hd1 hd2 hd3 hE hs
      go_enter Try.func46, Try.ntmps46
      go_wp2_with fail
      refine H.out.mono ?_
      rintro e w' ⟨rfl, rfl⟩
      go_wp2
      go_ret3
      rw [HR.out]
      exact own3_nil _ _ _
    · by_cases h2 : n - S < N
      · have HR := hid (hd2 hE h1 h2)
        clear hd hd1 hd2 hd3 hE hs
        go_enter Try.func46, Try.ntmps46
        go_wp2_with fail
        refine H.out.mono ?_
        rintro e w' ⟨rfl, rfl⟩
        have i1 : (n : Int) - (S : Int) < N := by omega
        by_cases hcS : c = S
        all_goals
          go_wp2
          go_ret3
          rw [HR.out]
          exact own3_nil _ _ _
      · have HR := hid (hd3 hE h1 h2)
        have hcut := hs.cut (k := S) (c := c) (by rw [bys_length, HN.out]; exact hc) 1 rfl
        rw [← bys_drop] at hcut
        have htk := hcut.take N
        rw [← bys_take] at htk
        clear hd hd1 hd2 hd3 hE hs hcut
        go_enter Try.func46, Try.ntmps46
        go_wp2_with fail
        refine H.out.mono ?_
        rintro e w' ⟨rfl, rfl⟩
        by_cases hcS : c = S
        · rw [if_pos hcS] at htk
          subst hcS
          obtain rfl : N = 0 := by omega
          have htk1 := htk.below (hal.mono hB)
          go_wp2_with (at_builtin; refine wp_app8 rfl (.tmp 26) (.tmp 33) rfl w.heap.size (some ⟨w.heap.size, 0, none⟩) 0 0 [] rfl (own_empty w _ _ (Nat.le_refl _)) _ B 0 0 ((l.drop c).take 0) rfl (by rw [List.length_take, List.length_drop, HN.out]; omega) htk1 0 (by omega) (by omega) (by simp) ?_)
          intro A1 c1 w1 ho1 hg1
          have HB := hid (hal.grown hg1 (by simp) (by intro k hk; simp [Value.ownBlock] at hk; omega))
          have HO := hid ho1
          clear htk htk1 hal ho1 hg1
          go_wp2
          go_ret3
          have hlen : ((l.drop c).take 0).length = 0 := by rw [List.length_take, List.length_drop, HN.out]; omega
          rw [HR.out]
          refine ⟨A1, c1, ?_, ?_, HB.out⟩
          · simp only [hlen]; rfl
          · simp only [hlen]; exact HO.out
        · rw [if_neg hcS] at htk
          simp only [Nat.mul_one] at htk
          have htk1 := htk.below (hal.mono hB)
          go_wp2_with (at_builtin; refine wp_app8 rfl (.tmp 26) (.tmp 33) rfl w.heap.size (some ⟨w.heap.size, 0, none⟩) 0 0 [] rfl (own_empty w _ _ (Nat.le_refl _)) _ B _ _ ((l.drop S).take N) rfl (by rw [List.length_take, List.length_drop, HN.out]; omega) htk1 N (by omega) (by omega) (by simp) ?_)
          intro A1 c1 w1 ho1 hg1
          have HB := hid (hal.grown hg1 (by simp) (by intro k hk; simp [Value.ownBlock] at hk; omega))
          have HO := hid ho1
          clear htk htk1 hal ho1 hg1
          go_wp2
          go_ret3
          have hlen : ((l.drop S).take N).length = N := by rw [List.length_take, List.length_drop, HN.out]; omega
          rw [HR.out]
          refine ⟨A1, c1, ?_, ?_, HB.out⟩
          · simp only [hlen]; rfl
          · simp only [hlen]; exact HO.out
  · have e0 : ((E : Int) != 0) = true := by simp; omega
    have HR := hid (hd hE)
    clear hd hd1 hd2 hd3 hE hs
    go_enter Try.func46, Try.ntmps46
    go_wp2_with fail
    refine H.out.mono ?_
    rintro e w' ⟨rfl, rfl⟩
    go_wp2
    go_ret3
    rw [HR.out]
    exact own3_nil _ _ _
end Go.Proofs.Ytmhmaodnkifcaaa
