/-
  sched.Runnable's iterator: a contract for whatever loop goes over it.
-/
import Derived.RangeFuncNested
import Derived.RangeFuncBound
import Derived.RangeFuncCalls
import Derived.RangeFuncLeaves
import Derived.Shelf.Abstract
import Derived.Shelf.RegionOpen
import Derived.WalkKit
import Derived.OwnWalkIn
import Derived.TacticsInMore
import Derived.LoopNIn
import Derived.LoopIn
import Derived.Test.YtcdpfpehjgppcaaSchA
namespace Go.Proofs.Ytcdpfpehjgppcaa
open Go.RowKit Go.Shelf
attribute [local go_sem] Oper.semAt_some

/-- The numbers of the plugins that are ready among the first k. -/
def rl (zs : List Int) (k : Nat) : List Int := ((List.range k).filter fun i => zs[i]?.getD 0 == 1).map fun i : Nat => (i : Int) + 1
theorem rl_hit {zs : List Int} {k : Nat} (h : zs[k]?.getD 0 = 1) : rl zs (k + 1) = rl zs k ++ [(k : Int) + 1] := by
  simp [rl, List.range_succ, h]
theorem rl_miss {zs : List Int} {k : Nat} (h : ¬ zs[k]?.getD 0 = 1) : rl zs (k + 1) = rl zs k := by
  simp [rl, List.range_succ, h]
theorem rl_len (zs : List Int) (k : Nat) : (rl zs k).length ≤ k := by
  induction k with
  | zero => simp [rl]
  | succ k ih =>
    by_cases h : zs[k]?.getD 0 = 1
    · rw [rl_hit h]; simp; omega
    · rw [rl_miss h]; omega

set_option maxRecDepth 100000 in
set_option maxHeartbeats 2000000 in
theorem iter1_in (F : Fence) (n : Nat) (hf : F.fn 17) (hro : F.round = none) (hn : 1 ≤ n) (l Bs n₀ b off len cap : Nat) (zs : List Int) (hreach : len ≤ 100000) (hb : b < n₀) (J Jx : List Int → World → Prop)
    (hY : ∀ pre x W, J pre W → pre.length < len → YieldAt F (n - 1) Try.prog l #[.int .i64 x] W fun e W' =>
      (e = .returned (.bool true) ∧ J (pre ++ [x]) W' ∧ Below n₀ W W') ∨ (e = .returned (.bool false) ∧ Jx (pre ++ [x]) W'))
    (W : World) (hBs : W.cell? ⟨Bs, 0, none⟩ = some (.slice (some ⟨b, off, none⟩) len cap)) (hc : ∀ j, j < len → W.cell? ⟨b, off + j, none⟩ = some (.int .i64 (zs[j]?.getD 0))) (h0 : J [] W) :
    CallsIn F n Try.prog 17 #[.func (.yield l) #[] #[], .pointer (some ⟨Bs, 0, none⟩)] W fun e W' => (∃ v, e = .returned v) ∧
      ((∃ ys, ys = rl zs len ∧ J ys W') ∨ (∃ pre, (∃ k, k ≤ len ∧ pre = rl zs k) ∧ Jx pre W')) := by
  refine callsIn_of_wp Try.func17 rfl hf ?_ hro
  simp only [Try.ntmps17, List.size_toArray, List.length_cons, List.length_nil, Nat.reduceAdd, Nat.reduceSub, Array.replicate_succ, Array.replicate_zero, List.push_toArray, List.append_toArray, List.nil_append, List.cons_append]
  gi_wp2
  gi_loopw [7] (fun i wr => ∃ k : Nat, k ≤ len ∧ i = .int .i64 k ∧ J (rl zs k) wr ∧ Below n₀ W wr) (fun i _ => len - (intOf i).toNat)
  case atStart => exact ⟨0, Nat.zero_le _, rfl, h0, Below.refl _ _⟩
  case round =>
    obtain ⟨k, hk, rfl, hJs, hnx⟩ := hrel
    have hcx : k < len → wr.cell? ⟨b, off + k, none⟩ = some (.int .i64 (zs[k]?.getD 0)) := fun h => (hnx.cell (p := ⟨b, off + k, none⟩) hb).trans (hc k h)
    by_cases hlt : k < len
    · have hcx' := hcx hlt
      by_cases h1 : zs[k]?.getD 0 = 1
      · rw [h1] at hcx'
        obtain ⟨fn, tmps, assign, body, hy, hR⟩ := hY _ ((k : Int) + 1) wr hJs (Nat.lt_of_le_of_lt (rl_len zs k) hlt)
        have hw : wrap64 ((k : Int) + 1) = (k : Int) + 1 := by unfold wrap64; omega
        clear hcx
        gi_wp2
        refine hR.mono ?_
        rintro e W3 (⟨rfl, hJ3, hk3⟩ | ⟨rfl, hJx3⟩)
        · gi_wp2
          go_roundw
          case rel => exact ⟨k + 1, by omega, by simp, by rw [rl_hit h1]; exact hJ3, hnx.trans hk3⟩
          case measure => simp [intOf]; omega
        · gi_wp2
          refine bodyPost_ret (results_none rfl _ _ _) rfl ?_
          exact ⟨⟨_, rfl⟩, .inr ⟨_, ⟨k + 1, by omega, (rl_hit h1).symm⟩, hJx3⟩⟩
      · have h1' : ((zs[k]?.getD 0 : Int) == 1) = false := by simpa using h1
        clear hcx
        gi_wp2
        refine ⟨fun _ h => (by cases h), ?_⟩
        gi_wp2
        go_roundw
        case rel => exact ⟨k + 1, by omega, by simp, by rw [rl_miss h1]; exact hJs, hnx⟩
        case measure => simp [intOf]; omega
    · obtain rfl : k = len := by omega
      clear hcx
      gi_wp2
      go_end0
      exact ⟨⟨_, rfl⟩, .inl ⟨_, rfl, hJs⟩⟩

/-- The slice value holds the numbers, in a block below n₀; or there are none. -/
def Ints (n₀ : Nat) (W : World) (sv : Value) (zs : List Int) : Prop :=
  ∃ a c, sv = .slice a zs.length c ∧ ∀ j, j < zs.length → ∃ b off, a = some ⟨b, off, none⟩ ∧ b < n₀ ∧ W.cell? ⟨b, off + j, none⟩ = some (.int .i64 (zs[j]?.getD 0))
theorem Ints.below {n₀ : Nat} {A B : World} (h : Below n₀ A B) {sv : Value} {zs : List Int} : Ints n₀ A sv zs → Ints n₀ B sv zs
  | ⟨a, c, e, hc⟩ => ⟨a, c, e, fun j hj => by
    obtain ⟨b, off, ha, hb, hcell⟩ := hc j hj
    exact ⟨b, off, ha, hb, (h.cell (p := ⟨b, off + j, none⟩) hb).trans hcell⟩⟩
theorem ints_sl {n₀ : Nat} {W : World} {A : Option Addr} {n c : Nat} {zs : List Int} (hn : zs.length = n) (h : Sl W n₀ A (nums .i64 zs)) : Ints n₀ W (.slice A n c) zs := by
  subst hn
  refine ⟨A, c, rfl, fun j hj => ?_⟩
  obtain ⟨b, off, hA, hb, hc⟩ := h.num hj
  exact ⟨b, off, hA, hb, by rw [hc]; simp [hj]⟩

set_option maxHeartbeats 1000000 in
theorem iter1_nil_in (F : Fence) (n : Nat) (hf : F.fn 17) (hro : F.round = none) (l Bs c : Nat) (A : Option Addr) (J : List Int → World → Prop) (W : World) (hBs : W.cell? ⟨Bs, 0, none⟩ = some (.slice A 0 c)) (h0 : J [] W) :
    CallsIn F n Try.prog 17 #[.func (.yield l) #[] #[], .pointer (some ⟨Bs, 0, none⟩)] W fun e W' => (∃ v, e = .returned v) ∧ J [] W' := by
  refine callsIn_of_wp Try.func17 rfl hf ?_ hro
  simp only [Try.ntmps17, List.size_toArray, List.length_cons, List.length_nil, Nat.reduceAdd, Nat.reduceSub, Array.replicate_succ, Array.replicate_zero, List.push_toArray, List.append_toArray, List.nil_append, List.cons_append]
  gi_wp2
  gi_loopw [7] (fun i wr => i = .int .i64 0 ∧ J [] wr) (fun _ _ => 0)
  case atStart => exact ⟨rfl, h0⟩
  case round =>
    obtain ⟨rfl, hJs⟩ := hrel
    gi_wp2
    go_end0
    exact ⟨⟨_, rfl⟩, hJs⟩

/-- What a loop over it gets: the plugins that are ready, in ascending order; or the first of them. -/
theorem iter_stops (F : Fence) (n : Nat) (hf : F.fn 17) (hro : F.round = none) (hn : 1 ≤ n) (Bs n₀ : Nat) (sv : Value) (zs : List Int) (hreach : zs.length ≤ 100000) (w : World) (hBs : Bs < w.heap.size) (hn₀ : n₀ ≤ w.heap.size)
    (hc : w.cell? ⟨Bs, 0, none⟩ = some sv) (hI : Ints n₀ w sv zs) :
    SeqStopsK F n Try.prog 17 #[.pointer (some ⟨Bs, 0, none⟩)] (fun x : Int => #[Value.int .i64 x]) (Below n₀) (fun ys => ys = rl zs zs.length) (fun pre => ∃ k, k ≤ zs.length ∧ pre = rl zs k) zs.length w := fun l J Jx W hW _ _ hY h0 => by
  have hc' := (hW.cell (p := ⟨Bs, 0, none⟩) hBs).trans hc
  obtain ⟨a, c, rfl, hcs⟩ := hI.below (hW.mono hn₀)
  by_cases h0' : zs.length = 0
  · rw [h0'] at hc'
    refine (iter1_nil_in F n hf hro l Bs c a J W hc' h0).mono fun e W' ⟨he, hj⟩ => ⟨he, .inl ⟨[], ?_, hj⟩⟩
    rw [h0']
    rfl
  · obtain ⟨b, off, rfl, hb, _⟩ := hcs 0 (by omega)
    refine iter1_in F n hf hro hn l Bs n₀ b off zs.length c zs hreach hb J Jx hY W hc' (fun j hj => ?_) h0
    obtain ⟨b', off', e, hb', hcell⟩ := hcs j hj
    cases e
    exact hcell
end Go.Proofs.Ytcdpfpehjgppcaa
