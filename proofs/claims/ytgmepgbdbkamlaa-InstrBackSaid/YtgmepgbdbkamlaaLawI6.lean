/-
  The law's 'same', InstrDecode walked.
-/
import Derived.Test.YtgmepgbdbkamlaaInsD
import Derived.Test.YtgmepgbdbkamlaaMem2
namespace Go.Proofs.Ytgmepgbdbkamlaa
open Go.RowKit

theorem idec_any (A : Option Addr) (n c : Nat) (l : List UInt8) (w : World) (hn : l.length = n) (hc : n ≤ c) (hs : Sl w w.heap.size A (bys l)) (hm : n ≤ 100000) :
    Calls Try.prog 17 #[.slice A n c] w fun e w' => e = .returned (ret4 (decI l)) ∧ Below w.heap.size w w' := by
  cases l with
  | nil => obtain rfl : n = 0 := hn.symm; exact idec_nil A c w
  | cons b t => obtain rfl : n = t.length + 1 := hn.symm; exact idec_cons A t.length c b t w rfl hc hs (by omega)
theorem ridec_any (A : Option Addr) (n c : Nat) (l : List UInt8) (w : World) (hn : l.length = n) (hc : n ≤ c) (hs : Sl w w.heap.size A (bys l)) (hm : n ≤ 100000) :
    Calls Try.prog 31 #[.slice A n c] w fun e w' => e = .returned (ret4 (decI l)) ∧ Below w.heap.size w w' := by
  cases l with
  | nil => obtain rfl : n = 0 := hn.symm; exact ridec_nil A c w
  | cons b t => obtain rfl : n = t.length + 1 := hn.symm; exact ridec_cons A t.length c b t w rfl hc hs (by omega)

set_option maxHeartbeats 1000000 in
theorem same_any (A : Option Addr) (n c : Nat) (l : List UInt8) (w : World) (hn : l.length = n) (hc : n ≤ c) (hs : Sl w w.heap.size A (bys l)) (hm : n ≤ 100000) :
    Calls Try.prog 15 #[.slice A n c] w fun e w' => e = .returned (.bool true) ∧ Below w.heap.size w w' := by
  have H1 := hid (fun (w' : World) (h : Below w.heap.size w w') => idec_any A n c l w' hn hc (hs.go h) hm)
  have H2 := hid (fun (w' : World) (h : Below w.heap.size w w') => ridec_any A n c l w' hn hc (hs.go h) hm)
  clear hn hc hs hm
  obtain ⟨⟨o, a, k, er⟩, hr⟩ : ∃ r, decI l = r := ⟨_, rfl⟩
  rw [hr] at H1 H2
  clear hr
  unfold ret4 insv at H1 H2
  go_enter Try.func15, Try.ntmps15
  go_wp2_with fail
  refine (H1.out _ (Below.refl _ _)).mono ?_
  rintro e w1 ⟨rfl, hb1⟩
  have HB1 := hid (below_go hb1 (below_new w1 #[.int .i64 o, .int .u64 a] 24))
  clear hb1
  go_wp2_with fail
  refine (H2.out _ HB1.out).mono ?_
  rintro e w2 ⟨rfl, hb2⟩
  have f0 := (below_new w2 #[.int .i64 o, .int .u64 a] 24).cell (p := ⟨w1.heap.size, 0, none⟩) (by have := hb2.size; simp at this ⊢; omega)
  have f1 := (below_new w2 #[.int .i64 o, .int .u64 a] 24).cell (p := ⟨w1.heap.size, 1, none⟩) (by have := hb2.size; simp at this ⊢; omega)
  rw [hb2.cell (p := ⟨w1.heap.size, 0, none⟩) (by simp)] at f0
  rw [hb2.cell (p := ⟨w1.heap.size, 1, none⟩) (by simp)] at f1
  simp [go_sem] at f0 f1
  have HB2 := hid (below_go (below_go HB1.out hb2) (below_new w2 #[.int .i64 o, .int .u64 a] 24))
  clear hb2
  go_wp2
  go_ret
  exact ⟨rfl, HB2.out⟩
end Go.Proofs.Ytgmepgbdbkamlaa
