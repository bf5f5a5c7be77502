/-
  slices.Clone, sched.Runnable.
-/
import Derived.Test.YtcdpfpehjgppcaaBase
import Derived.Test.YtcdpfpehjgppcaaProg
import Derived.Test.YtcdpfpehjgppcaaUse
import Derived.Lib.BufferMore
namespace Go.Proofs.Ytcdpfpehjgppcaa
open Go.RowKit

theorem info_int : (Try.prog.info? 3).map (fun i => (i.zero, i.size, i.bytes)) = some (some (.int .i64 0), 1, 8) := by kernel_rfl

/-- A slice of the call that holds numbers. -/
def OwnInts (w : World) (zs : List Int) (n : Nat) (e : Ending) (w' : World) : Prop :=
  ∃ A c, e = .returned (.slice A n c) ∧ w'.ownsRow w.heap.size 3 1 (.slice A n c) n (nums .i64 zs) ∧ Below w.heap.size w w'

theorem clone_any (A : Option Addr) (n c : Nat) (zs : List Int) (w : World) (hn : zs.length = n) (hs : Sl w w.heap.size A (nums .i64 zs)) (hm : n ≤ 100000) :
    Calls Try.prog 16 #[.slice A n c] w (OwnInts w zs n) := by
  cases A with
  | none =>
    have h0 : n = 0 := by
      cases zs with
      | nil => exact hn.symm
      | cons z zs =>
        obtain ⟨b, off, h, _⟩ := hs.num (i := 0) (by simp)
        cases h
    subst h0
    obtain rfl : zs = [] := List.eq_nil_of_length_eq_zero hn
    have hq := Lib.run_eql_slice_nil_nil (P := Try.prog) w 0 c Try.underlying22
    go_enter Try.func16, Try.ntmps16
    go_wp2
    go_ret
    exact ⟨none, 0, rfl, World.ownsRow_nil _ _ _ _, Below.refl _ _⟩
  | some a =>
    have HE := hid (World.ownsRow_made (base := w.heap.size) (e := 3) (size := 1) w #[] 0 (Nat.le_refl _) (Nat.zero_le _) (by simp))
    have HN := hid hn
    have HS := hid (hs.below (below_new w #[] 3))
    have hq := Lib.run_eql_slice_some_nil (P := Try.prog) w a n c Try.underlying22
    clear hn hs
    go_enter Try.func16, Try.ntmps16
    go_wp2_with (at_builtin; refine wp_app1 Try.underlying22 info_int (by rfl) (by decide) (by rfl) (.tmp 5) (.tmp 6) rfl w.heap.size (some ⟨w.heap.size, 0, none⟩) 0 0 [] rfl HE.out (some a) _ n c (nums .i64 zs) rfl (by rw [nums_length]; exact HN.out) HS.out (nums_one _ _) n (by omega) (by omega) (by simp) ?_)
    intro A4 c4 w4 ho4 hg4 _
    have HB4 := hid ((below_new w #[] 3).grown hg4 (by simp) (own_lt HE.out))
    have HO4 := hid (show w4.ownsRow w.heap.size 3 1 (.slice A4 n c4) n (nums .i64 zs) by simpa using ho4)
    clear ho4 hg4 hq
    go_wp2
    go_ret
    exact ⟨A4, c4, rfl, HO4.out, HB4.out⟩

/-- The iterator: the function with the clone that it has captured. -/
theorem runnable_any (A : Option Addr) (n c : Nat) (zs : List Int) (w : World) (hn : zs.length = n) (hs : Sl w w.heap.size A (nums .i64 zs)) (hm : n ≤ 100000) :
    Calls Try.prog 11 #[.slice A n c] w fun e w' => ∃ Bs A' c', e = .returned (.func (.func 17) #[] #[.pointer (some ⟨Bs, 0, none⟩)]) ∧ w'.cell? ⟨Bs, 0, none⟩ = some (.slice A' n c') ∧ w.heap.size ≤ Bs ∧ Bs < w'.heap.size ∧ w'.ownsRow w.heap.size 3 1 (.slice A' n c') n (nums .i64 zs) ∧ Below w.heap.size w w' := by
  have HC := hid (fun (w' : World) (h : Below w.heap.size w w') => clone_any A n c zs w' hn (hs.go h) hm)
  clear hn hs
  go_enter Try.func11, Try.ntmps11
  go_wp2_with fail
  refine (HC.out _ (Below.refl _ _)).mono ?_
  rintro e w1 ⟨A1, c1, rfl, ho1, hb1⟩
  have HO1 := hid ho1
  have HB1 := hid hb1
  clear ho1 hb1
  go_wp2
  go_ret
  exact ⟨w1.heap.size, A1, c1, rfl, by simp [go_sem], HB1.out.size, by simp, own_below HO1.out (below_new _ _ _), below_go HB1.out (below_new _ _ _)⟩
end Go.Proofs.Ytcdpfpehjgppcaa
