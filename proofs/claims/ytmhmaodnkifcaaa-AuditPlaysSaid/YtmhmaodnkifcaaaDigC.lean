/-
  What digest.Chain, and the reference's Eight and Chain compute: the digest of the eight bytes of a number and a record.
-/
import Derived.Test.YtmhmaodnkifcaaaDigA
namespace Go.Proofs.Ytmhmaodnkifcaaa
open Go.RowKit

/-- The array that Chain fills, k bytes of it. -/
def Arr (w wr : World) (D k : Nat) : Prop :=
  ∃ cs : List Value, wr.heap[w.heap.size]? = some (.cells cs.toArray 109 (0, 0)) ∧ cs.length = 8 ∧ cs.take k = bys (leb D k) ∧ Below w.heap.size w wr

theorem byte_of_shift (d k : Nat) : Value.int .u8 ((d : Int) / 2 ^ (8 * k) % 256) = u8v (UInt8.ofNat (d / 2 ^ (8 * k))) := by
  unfold u8v
  simp

theorem arr_start (w : World) (D : Nat) : Arr w (w.alloc (.cells #[.int .u8 0, .int .u8 0, .int .u8 0, .int .u8 0, .int .u8 0, .int .u8 0, .int .u8 0, .int .u8 0] 109)) D 0 :=
  ⟨_, heap_alloc_new w _, rfl, by simp [leb, bys], (Below.refl _ _).alloc (Nat.le_refl _) _⟩

theorem arr_step {w wr : World} {D k : Nat} (h : Arr w wr D k) (hk : k < 8) : Arr w (wr.setCell ⟨w.heap.size, k, none⟩ (.int .u8 ((D : Int) / 2 ^ (8 * k) % 256))) D (k + 1) := by
  obtain ⟨cs, hh, hl, ht, hb⟩ := h
  refine ⟨cs.set k (.int .u8 ((D : Int) / 2 ^ (8 * k) % 256)), ?_, by simp [hl], ?_, hb.setCell (Nat.le_refl _) _⟩
  · simp [World.setCell, Array.getElem?_modify, hh]
  · rw [leb_succ, bys_append, ← ht, byte_of_shift]
    rw [List.take_succ_eq_append_getElem (by simp [hl, hk])]
    simp [bys, List.take_set_of_le]

theorem arr_sl {w wr : World} {D : Nat} (h : Arr w wr D 8) : Sl wr (w.heap.size + 1) (some ⟨w.heap.size, 0, none⟩) (bys (leb D 8)) := by
  obtain ⟨cs, hh, hl, ht, hb⟩ := h
  refine .inr ⟨_, _, rfl, by omega, fun j u hu => ?_⟩
  rw [← ht, List.take_of_length_le (by omega)] at hu
  simp [World.cell?, hh, hu]

set_option maxHeartbeats 400000 in
theorem chain_any (A : Option Addr) (n c B d : Nat) (l : List UInt8) (w : World) (hn : l.length = n) (hs : Sl w B A (bys l)) (hm : n ≤ maxLen) (hB : B ≤ w.heap.size) :
    Calls Try.prog 38 #[.int .u64 d, .slice A n c] w fun e w' => e = .returned (.int .u64 (chain d l)) ∧ Below w.heap.size w w' := by
  go_enter Try.func38, Try.ntmps38
  go_wp2
  go_loopw [7] (fun i wr => ∃ k : Nat, k ≤ 8 ∧ i = .int .i64 k ∧ Arr w wr d k) (fun i _ => 8 - (intOf i).toNat)
  case atStart => exact ⟨0, by omega, rfl, arr_start w d⟩
  case round =>
    obtain ⟨k, hk, rfl, hr⟩ := hrel
    by_cases hlt : k < 8
    · obtain ⟨cs, hh, hl, ht, hbel⟩ := hr
      have hcell : wr.cell? ⟨w.heap.size, k, none⟩ = some (cs[k]'(by omega)) := by simp [World.cell?, hh, hl, hlt]
      have hfr : wr.frozen? ⟨w.heap.size, k, none⟩ = false := by simp [World.frozen?, hh]
      go_wp2
      go_roundw
      case rel => exact ⟨k + 1, by omega, by go_num, arr_step ⟨cs, hh, hl, ht, hbel⟩ hlt⟩
      case measure => simp [intOf]; omega
    · obtain rfl : k = 8 := by omega
      have hb := hr.choose_spec.2.2.2
      have h1 := add_any (some ⟨w.heap.size, 0, none⟩) 8 8 _ fStart (leb d 8) wr (leb_length _ _) fStart_lt (arr_sl hr) (by unfold maxLen; omega)
      rw [← start_nat] at h1
      have H1 := hid h1
      have H2 := hid (add_any A n c B (fnv fStart (leb d 8)) l wr hn (fnv_lt _ _ fStart_lt) (hs.keep fun p hp => hb.cell (Nat.lt_of_lt_of_le hp hB)) hm)
      have HR := hid hb
      clear h1 hr hb hs hlt hk
      go_wp2_with fail
      refine H1.out.mono ?_
      rintro e w' ⟨rfl, rfl⟩
      go_wp2_with fail
      refine H2.out.mono ?_
      rintro e w' ⟨rfl, rfl⟩
      go_wp2
      go_ret
      exact ⟨rfl, HR.out⟩
end Go.Proofs.Ytmhmaodnkifcaaa
