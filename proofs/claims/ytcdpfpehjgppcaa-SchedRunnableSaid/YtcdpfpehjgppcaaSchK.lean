/-
  The iterator's contract where the loop's body writes a variable of its own.
-/
import Derived.Test.YtcdpfpehjgppcaaSchI
namespace Go.Proofs.Ytcdpfpehjgppcaa
open Go.RowKit Go.Shelf
attribute [local go_sem] Oper.semAt_some

set_option maxRecDepth 100000 in
set_option maxHeartbeats 2000000 in
theorem iter1K_in (F : Fence) (n : Nat) (hf : F.fn 17) (hro : F.round = none) (hn : 1 ≤ n) (l Bs b off len cap : Nat) (Kp : World → World → Prop) (zs : List Int) (hreach : len ≤ 100000) (hKc : ∀ A B, Kp A B → ∀ j, B.cell? ⟨b, off + j, none⟩ = A.cell? ⟨b, off + j, none⟩) (J Jx : List Int → World → Prop)
    (hY : ∀ pre x W, J pre W → pre.length < len → YieldAt F (n - 1) Try.prog l #[.int .i64 x] W fun e W' =>
      (e = .returned (.bool true) ∧ J (pre ++ [x]) W' ∧ Kp W W') ∨ (e = .returned (.bool false) ∧ Jx (pre ++ [x]) W'))
    (W : World) (hBs : W.cell? ⟨Bs, 0, none⟩ = some (.slice (some ⟨b, off, none⟩) len cap)) (hc : ∀ j, j < len → W.cell? ⟨b, off + j, none⟩ = some (.int .i64 (zs[j]?.getD 0))) (h0 : J [] W) :
    CallsIn F n Try.prog 17 #[.func (.yield l) #[] #[], .pointer (some ⟨Bs, 0, none⟩)] W fun e W' => (∃ v, e = .returned v) ∧
      ((∃ ys, ys = rl zs len ∧ J ys W') ∨ (∃ pre, (∃ k, k ≤ len ∧ pre = rl zs k) ∧ Jx pre W')) := by
  refine callsIn_of_wp Try.func17 rfl hf ?_ hro
  simp only [Try.ntmps17, List.size_toArray, List.length_cons, List.length_nil, Nat.reduceAdd, Nat.reduceSub, Array.replicate_succ, Array.replicate_zero, List.push_toArray, List.append_toArray, List.nil_append, List.cons_append]
  gi_wp2
  gi_loopw [7] (fun i wr => ∃ k : Nat, k ≤ len ∧ i = .int .i64 k ∧ J (rl zs k) wr ∧ ∀ j, j < len → wr.cell? ⟨b, off + j, none⟩ = some (.int .i64 (zs[j]?.getD 0))) (fun i _ => len - (intOf i).toNat)
  case atStart => exact ⟨0, Nat.zero_le _, rfl, h0, hc⟩
  case round =>
    obtain ⟨k, hk, rfl, hJs, hnx⟩ := hrel
    have hcx := hnx k
    by_cases hlt : k < len
    · have hcx' := hcx hlt
      by_cases h1 : zs[k]?.getD 0 = 1
      · rw [h1] at hcx'
        obtain ⟨fn, tmps, assign, body, hy, hR⟩ := hY _ ((k : Int) + 1) wr hJs (Nat.lt_of_le_of_lt (rl_len zs k) hlt)
        have hw : wrap64 ((k : Int) + 1) = (k : Int) + 1 := by unfold wrap64; omega
        clear hcx
        gi_wp2
        refine hR.mono ?_
        rintro e W3 (⟨rfl, hJ3, hk3⟩ | ⟨rfl, hJx3⟩)
        · gi_wp2
          go_roundw
          case rel => exact ⟨k + 1, by omega, by simp, by rw [rl_hit h1]; exact hJ3, fun j hj => (hKc _ _ hk3 j).trans (hnx j hj)⟩
          case measure => simp [intOf]; omega
        · gi_wp2
          refine bodyPost_ret (results_none rfl _ _ _) rfl ?_
          exact ⟨⟨_, rfl⟩, .inr ⟨_, ⟨k + 1, by omega, (rl_hit h1).symm⟩, hJx3⟩⟩
      · have h1' : ((zs[k]?.getD 0 : Int) == 1) = false := by simpa using h1
        clear hcx
        gi_wp2
        refine ⟨fun _ h => (by cases h), ?_⟩
        gi_wp2
        go_roundw
        case rel => exact ⟨k + 1, by omega, by simp, by rw [rl_miss h1]; exact hJs, hnx⟩
        case measure => simp [intOf]; omega
    · obtain rfl : k = len := by omega
      clear hcx
      gi_wp2
      go_end0
      exact ⟨⟨_, rfl⟩, .inl ⟨_, rfl, hJs⟩⟩


/-- All blocks below n₀ lie as they lay, but for the block B. -/
def Ko (n₀ B : Nat) (W W' : World) : Prop := ∀ k, k < n₀ → k ≠ B → W'.heap[k]? = W.heap[k]?
theorem ko_t {n₀ B : Nat} {W1 W2 W3 : World} (h : Ko n₀ B W1 W2) (k : Ko n₀ B W2 W3) : Ko n₀ B W1 W3 := fun i h1 h2 => (k i h1 h2).trans (h i h1 h2)
theorem ko_b {n₀ B : Nat} {w : World} (hn : n₀ ≤ w.heap.size) (W : World) (l : Nat) (o o' : Obj) (hl : w.heap.size ≤ l) (h : W.heap[l]? = some o) (_ : o.isCells = false) (_ : o.isWalk = false) : Ko n₀ B W (W.putObj l o') :=
  fun k h1 _ => (grownBy_putObj' W l o').block k (by have := (Array.getElem?_eq_some_iff.1 h).1; omega) (by simp; omega)

/-- The slice value holds the numbers, in a block below n₀ that is not B; or there are none. -/
def IntsK (n₀ B : Nat) (W : World) (sv : Value) (zs : List Int) : Prop :=
  ∃ a c, sv = .slice a zs.length c ∧ ∀ j, j < zs.length → ∃ b off, a = some ⟨b, off, none⟩ ∧ b < n₀ ∧ b ≠ B ∧ W.cell? ⟨b, off + j, none⟩ = some (.int .i64 (zs[j]?.getD 0))
theorem iter_stopsK (F : Fence) (n : Nat) (hf : F.fn 17) (hro : F.round = none) (hn : 1 ≤ n) (Bs n₀ B : Nat) (sv : Value) (zs : List Int) (hreach : zs.length ≤ 100000) (w : World) (hBs : Bs < w.heap.size) (hn₀ : n₀ ≤ w.heap.size)
    (hc : w.cell? ⟨Bs, 0, none⟩ = some sv) (hI : IntsK n₀ B w sv zs) :
    SeqStopsK F n Try.prog 17 #[.pointer (some ⟨Bs, 0, none⟩)] (fun x : Int => #[Value.int .i64 x]) (Ko n₀ B) (fun ys => ys = rl zs zs.length) (fun pre => ∃ k, k ≤ zs.length ∧ pre = rl zs k) zs.length w := fun l J Jx W hW _ _ hY h0 => by
  have hc' := (hW.cell (p := ⟨Bs, 0, none⟩) hBs).trans hc
  obtain ⟨a, c, rfl, hcs⟩ := hI
  by_cases h0' : zs.length = 0
  · rw [h0'] at hc'
    refine (iter1_nil_in F n hf hro l Bs c a J W hc' h0).mono fun e W' ⟨he, hj⟩ => ⟨he, .inl ⟨[], ?_, hj⟩⟩
    rw [h0']
    rfl
  · obtain ⟨b, off, rfl, hb, hne, _⟩ := hcs 0 (by omega)
    refine iter1K_in F n hf hro hn l Bs b off zs.length c (Ko n₀ B) zs hreach (fun A' B' hk j => World.cell?_of_block (hk b hb hne)) J Jx hY W hc' (fun j hj => ?_) h0
    obtain ⟨b', off', e, hb', _, hcell⟩ := hcs j hj
    cases e
    exact (hW.cell (p := ⟨b, off + j, none⟩) (Nat.lt_of_lt_of_le hb hn₀)).trans hcell
end Go.Proofs.Ytcdpfpehjgppcaa
