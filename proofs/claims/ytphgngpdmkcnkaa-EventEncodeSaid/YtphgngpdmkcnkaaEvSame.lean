/-
  The law's 'same' and 'awake'.
-/
import Derived.Test.YtphgngpdmkcnkaaEvRef
import Derived.Test.YtphgngpdmkcnkaaStr
namespace Go.Proofs.Ytphgngpdmkcnkaa
open Go.RowKit
set_option linter.unusedSimpArgs false

/-- An event in a block of its own. -/
def EvAt (g : Nat) (p o h a x : Int) (w : World) : Prop :=
  (w.cell? ⟨g, 0, none⟩ = some (.int .i64 p) ∧ w.cell? ⟨g, 1, none⟩ = some (.int .i64 o) ∧ w.cell? ⟨g, 2, none⟩ = some (.int .u64 h) ∧ w.cell? ⟨g, 3, none⟩ = some (.int .u64 a) ∧ w.cell? ⟨g, 4, none⟩ = some (.int .i64 x)) ∧ g < w.heap.size
theorem ev_keep {g : Nat} {p o h a x : Int} {w w' : World} (he : EvAt g p o h a x w) (hb : Below w.heap.size w w') : EvAt g p o h a x w' := by
  obtain ⟨⟨h0, h1, h2, h3, h4⟩, hg⟩ := he
  exact ⟨⟨(hb.cell (p := ⟨g, 0, none⟩) hg).trans h0, (hb.cell (p := ⟨g, 1, none⟩) hg).trans h1, (hb.cell (p := ⟨g, 2, none⟩) hg).trans h2, (hb.cell (p := ⟨g, 3, none⟩) hg).trans h3, (hb.cell (p := ⟨g, 4, none⟩) hg).trans h4⟩, Nat.lt_of_lt_of_le hg hb.size⟩
theorem ev_new (p o h a x : Int) (w : World) : EvAt w.heap.size p o h a x (w.alloc (.cells #[.int .i64 p, .int .i64 o, .int .u64 h, .int .u64 a, .int .i64 x] 26)) :=
  ⟨⟨by simp [go_sem], by simp [go_sem], by simp [go_sem], by simp [go_sem], by simp [go_sem]⟩, by simp⟩

set_option maxHeartbeats 1000000 in
theorem same_any (A : Option Addr) (n c : Nat) (l : List UInt8) (w : World) (hn : l.length = n) (hc : n ≤ c) (hs : Sl w w.heap.size A (bys l)) (hm : n ≤ 100000) :
    Calls Try.prog 15 #[.slice A n c] w fun e w' => e = .returned (.bool true) ∧ Below w.heap.size w w' := by
  have H1 := hid (fun (w' : World) (h : Below w.heap.size w w') => edec_any A n c l w' hn hc (hs.go h) hm)
  have H2 := hid (fun (w' : World) (h : Below w.heap.size w w') => redec_any A n c l w' hn hc (hs.go h) hm)
  clear hn hc hs hm
  obtain ⟨⟨⟨p, o, h, a, x⟩, er⟩, hr⟩ : ∃ r, decE l = r := ⟨_, rfl⟩
  rw [hr] at H1 H2
  clear hr
  unfold retE evv at H1 H2
  go_enter Try.func15, Try.ntmps15
  go_wp2_with fail
  refine (H1.out _ (Below.refl _ _)).mono ?_
  rintro e w1 ⟨rfl, hb1⟩
  have HB1 := hid (below_go hb1 (below_new w1 #[.int .i64 p, .int .i64 o, .int .u64 h, .int .u64 a, .int .i64 x] 26))
  have HE1 := hid (ev_new p o h a x w1)
  clear hb1
  go_wp2_with fail
  refine (H2.out _ HB1.out).mono ?_
  rintro e w2 ⟨rfl, hb2⟩
  obtain ⟨⟨f0, f1, f2, f3, f4⟩, hg⟩ := ev_keep (ev_keep HE1.out hb2) (below_new w2 #[.int .i64 p, .int .i64 o, .int .u64 h, .int .u64 a, .int .i64 x] 26)
  have HB2 := hid (below_go (below_go HB1.out hb2) (below_new w2 #[.int .i64 p, .int .i64 o, .int .u64 h, .int .u64 a, .int .i64 x] 26))
  clear hb2
  go_wp2
  go_ret
  exact ⟨rfl, HB2.out⟩

theorem encE_awake : encE 1 2 0 0 11 = [1, 2, 0, 0, 11] := by decide +kernel

set_option maxHeartbeats 1000000 in
theorem awake_any (w : World) : Calls Try.prog 14 #[] w fun e w' => e = .returned (.bool true) ∧ Below w.heap.size w w' := by
  have H := hid (fun w => encode_yes 1 2 0 0 11 w (by unfold EvOK; omega) (by omega) (by omega))
  unfold evv at H
  go_enter Try.func14, Try.ntmps14
  go_wp2_with fail
  refine (H.out _).mono ?_
  rintro e w1 ⟨A1, c1, rfl, ho1, hb1⟩
  rw [encE_awake] at ho1 ⊢
  have k := str_own ho1
  have HB := hid hb1
  clear ho1 hb1
  simp only [List.length_cons, List.length_nil, Nat.zero_add, Nat.reduceAdd] at k ⊢
  have ks : (strOf [1, 2, 0, 0, 11]).toList = [1, 2, 0, 0, 11] := strOf_toList _
  go_wp2
  go_ret
  exact ⟨rfl, HB.out⟩
end Go.Proofs.Ytphgngpdmkcnkaa
