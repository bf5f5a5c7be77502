/-
  Bytes, Miss, Missed of the log; what a nil log does; the chapter's example.
-/
import Derived.Test.YtmhmaodnkifcaaaLogA
import Derived.Deep.QuietTactic
import Derived.BigQuiet
import Derived.WalkSmall
namespace Go.Proofs.Ytmhmaodnkifcaaa
open Go.RowKit
set_option linter.unusedSimpArgs false
set_option linter.unusedVariables false

set_option maxRecDepth 100000 in
theorem new_bad (cap : Int) (w : World) (hc : cap < 0 ∨ 65536 < cap) :
    Calls Try.prog 13 #[.int .i64 cap] w fun e w' => e = .returned (.tuple #[.pointer none, .int .i64 1]) ∧ Below w.heap.size w w' := by
  rcases hc with hc | hc
  · go_enter Try.func13, Try.ntmps13
    go_wp2
    go_ret2
    exact ⟨rfl, Below.refl _ _⟩
  · have hc' : ¬ cap < 0 := by omega
    go_enter Try.func13, Try.ntmps13
    go_wp2
    go_ret2
    exact ⟨rfl, Below.refl _ _⟩
set_option maxRecDepth 100000 in
theorem bytes_of (F : Nat → Prop) (g cap q : Nat) (es : List Ev) (f mis : Int → Nat) (w : World) (h : LogF w F g cap es f mis q) (hq : q < 100000) :
    Calls Try.prog 15 #[.pointer (some ⟨g, 0, none⟩)] w (OwnBytes w (logB fStart es) (logB fStart es).length) := by
  obtain ⟨A1, c1, A2, c2, d, m4, m5, hX, hd, hR, hq1, hcap⟩ := h.open
  have hl := logB_len es fStart hR
  have HC := hid (clone_any A2 (logB fStart es).length c2 w.heap.size (logB fStart es) w rfl (Sl.of_own hX.r2) (Nat.le_refl _) (by omega))
  have k2 := hX.blk.cell 2 rfl
  clear hX
  go_enter Try.func15, Try.ntmps15
  go_wp2_with fail
  refine HC.out.mono ?_
  rintro e w1 ⟨A, c, rfl, ho, hb⟩
  have HO := hid ho
  have HB := hid hb
  clear ho hb
  go_wp2
  go_ret
  exact ⟨A, c, rfl, HO.out, HB.out⟩
set_option maxRecDepth 100000 in
theorem bytes_nil (w : World) : Calls Try.prog 15 #[.pointer none] w fun e w' => e = .returned (.slice none 0 0) ∧ w' = w := by
  go_enter Try.func15, Try.ntmps15
  go_wp2
  go_ret
  exact ⟨rfl, rfl⟩
set_option maxRecDepth 100000 in
theorem len_nil (w : World) : Calls Try.prog 33 #[.pointer none] w fun e w' => e = .returned (.int .i64 0) ∧ w' = w := by
  go_enter Try.func33, Try.ntmps33
  go_wp2
  go_ret
  exact ⟨rfl, rfl⟩
set_option maxRecDepth 100000 in
theorem digest_nil (w : World) : Calls Try.prog 22 #[.pointer none] w fun e w' => e = .returned (.int .u64 fStart) ∧ w' = w := by
  have HL := hid (len_nil w)
  have H0 := hid (sum_any none 0 0 0 [] w rfl (.inl rfl) (by decide))
  go_enter Try.func22, Try.ntmps22
  go_wp2_with fail
  refine HL.out.mono ?_
  rintro e w1 ⟨rfl, rfl⟩
  go_wp2_with fail
  refine H0.out.mono ?_
  rintro e w1 ⟨rfl, rfl⟩
  go_wp2
  go_ret
  exact ⟨by rw [fnv_nil]; rfl, rfl⟩
set_option maxRecDepth 100000 in
theorem records_nil (k : Int) (w : World) : Calls Try.prog 21 #[.pointer none, .int .i64 k] w fun e w' => e = .returned (.int .i64 0) ∧ w' = w := by
  go_enter Try.func21, Try.ntmps21
  go_wp2
  go_ret
  exact ⟨rfl, rfl⟩
set_option maxRecDepth 100000 in
theorem missed_nil (k : Int) (w : World) : Calls Try.prog 56 #[.pointer none, .int .i64 k] w fun e w' => e = .returned (.int .i64 0) ∧ w' = w := by
  go_enter Try.func56, Try.ntmps56
  go_wp2
  go_ret
  exact ⟨rfl, rfl⟩
set_option maxRecDepth 100000 in
theorem miss_nil (k : Int) (w : World) : Calls Try.prog 29 #[.pointer none, .int .i64 k] w fun e w' => e = .returned (.tuple #[]) ∧ w' = w := by
  go_enter Try.func29, Try.ntmps29
  go_wp2
  go_end0
  exact ⟨rfl, rfl⟩
set_option maxRecDepth 100000 in
theorem missed_any (F : Nat → Prop) (g cap q : Nat) (es : List Ev) (f mis : Int → Nat) (k : Int) (w : World) (h : LogF w F g cap es f mis q) (hk : (Lit.int .i64 k).wf = true) :
    Calls Try.prog 56 #[.pointer (some ⟨g, 0, none⟩), .int .i64 k] w fun e w' => e = .returned (.int .i64 (mis k)) ∧ w' = w := by
  obtain ⟨A1, c1, A2, c2, d, m4, m5, hX, _⟩ := h.open
  have h5 := hX.blk.cell 5 rfl
  have hM := hX.h5
  clear hX
  have hkey := Maps.keyOf_int_mk Try.underlying3 hk
  go_enter Try.func56, Try.ntmps56
  have hlk : ∀ W : World, (Instr.lookup 32 (.map none) (.int .i64 k) false).run Try.prog W = .ok (.int .i64 0) W := fun W => by kernel_rfl
  cases m5 with
  | none =>
    have h0 := hM.2 k
    go_wp2_with fail
    go_ret
    exact ⟨by rw [h0]; rfl, rfl⟩
  | some b =>
    obtain ⟨hfq, n, D, hn, hown, hD, hat0⟩ := hM
    go_wp2_with (at_lookup; refine wpList_lookup_own_int _ rfl _ _ 32 rfl 3 3 .i64 (Maps.int_keyed Try.underlying3) Try.underlying32 Try.underlying3 (Try.zeroValue3 _) b n _ rfl hown _ _ rfl hkey ?_; intro c hat hwc)
    obtain rfl : c = (mis k : Int) := by
      have h1 := hat.symm.trans (hat0 k)
      injection h1 with h1
      injection h1 with _ h1
    go_ret
    exact ⟨rfl, rfl⟩
theorem room_nil (k : Int) (w : World) : Calls Try.prog 20 #[.pointer none, .int .i64 k] w fun e w' => e = .returned (.bool false) ∧ Below w.heap.size w w' := by
  go_enter Try.func20, Try.ntmps20
  go_wp2_with fail
  go_quiet (fail)
  go_wp2
  go_ret
  exact ⟨rfl, below_drewN (Below.refl _ _) _⟩
set_option maxRecDepth 100000 in
set_option maxHeartbeats 1000000 in
theorem awake_any (w : World) : Calls Try.prog 17 #[] w fun e w' => e = .returned (.bool true) ∧ Below w.heap.size w w' := by
  have HN := hid (new_ok 1 w (by decide))
  go_enter Try.func17, Try.ntmps17
  go_wp2_with fail
  refine HN.out.mono ?_
  rintro e w1 ⟨g, hg, rfl, hL, hb⟩
  have HL := hid hL
  have HB := hid hb
  have HG := hid hg
  have HR := hid (Run.refl w1 (fun k => k = g))
  clear hL hb hg
  have hr1 : Right (1, 2, 0, 0, 0) := by unfold Right EvOK; decide
  have hr2 : Right (2, 2, 0, 0, 0) := by unfold Right EvOK; decide
  have HA := hid (append_any _ g 1 0 [] _ 1 2 0 0 0 w1 HL.out hr1 (by decide))
  unfold evv at HA
  go_wp2_with fail
  refine HA.out.mono ?_
  rintro e w2 ⟨rfl, F2, hL2, hT2, hF2⟩
  have HL2 := hid hL2
  have HR2 := hid (HR.out.trans ⟨hT2, hF2⟩)
  clear hL2 hT2 hF2 HA
  have HA := hid (append_any _ g 1 1 _ _ 1 2 0 0 0 w2 HL2.out hr1 (by decide))
  unfold evv at HA
  go_wp2_with fail
  refine HA.out.mono ?_
  rintro e w3 ⟨rfl, F3, hL3, hT3, hF3⟩
  have HL3 := hid hL3
  have HR3 := hid (HR2.out.trans ⟨hT3, hF3⟩)
  clear hL3 hT3 hF3 HA
  have HA := hid (append_any _ g 1 2 _ _ 2 2 0 0 0 w3 HL3.out hr2 (by decide))
  unfold evv at HA
  go_wp2_with fail
  refine HA.out.mono ?_
  rintro e w4 ⟨rfl, F4, hL4, hT4, hF4⟩
  have HR4 := hid (HR3.out.trans ⟨hT4, hF4⟩)
  clear hL4 hT4 hF4 HA
  have e1 : apR 1 [] (1, 2, 0, 0, 0) = 0 := by decide
  have e2 : apR 1 (apE 1 [] (1, 2, 0, 0, 0)) (1, 2, 0, 0, 0) = 19 := by decide
  have e3 : apR 1 (apE 1 (apE 1 [] (1, 2, 0, 0, 0)) (1, 2, 0, 0, 0)) (2, 2, 0, 0, 0) = 0 := by decide
  rw [e1, e2, e3]
  clear e1 e2 e3
  go_wp2
  go_ret
  exact ⟨rfl, HB.out.trans (HR4.out.turn.below HB.out.size (fun k hk e => by have := HG.out; omega))⟩
end Go.Proofs.Ytmhmaodnkifcaaa
