/-
  audit.digestBytes: the eight bytes of a digest, the lowest first.
-/
import Derived.Test.YtmhmaodnkifcaaaDigR
import Derived.Test.YtmhmaodnkifcaaaWireP
import Derived.Test.YtmhmaodnkifcaaaUse
namespace Go.Proofs.Ytmhmaodnkifcaaa
open Go.RowKit
theorem make8 (w : World) : (Instr.makeSlice 38 (.int .i64 8) (.int .i64 8)).run Try.prog w = .ok (.slice (some ⟨w.heap.size, 0, none⟩) 8 8) (w.alloc (.cells #[.int .u8 0, .int .u8 0, .int .u8 0, .int .u8 0, .int .u8 0, .int .u8 0, .int .u8 0, .int .u8 0] 5)) := by kernel_rfl
/-- The eight cells while they are filled. -/
def Eig (w wr : World) (D k : Nat) : Prop :=
  ∃ cs : List Value, wr.ownsRow w.heap.size 5 1 (.slice (some ⟨w.heap.size, 0, none⟩) 8 8) 8 cs ∧ cs.length = 8 ∧ cs.take k = bys (leb D k) ∧ Below w.heap.size w wr
theorem eig_start (w : World) (D : Nat) : Eig w (w.alloc (.cells #[.int .u8 0, .int .u8 0, .int .u8 0, .int .u8 0, .int .u8 0, .int .u8 0, .int .u8 0, .int .u8 0] 5)) D 0 := by
  refine ⟨[.int .u8 0, .int .u8 0, .int .u8 0, .int .u8 0, .int .u8 0, .int .u8 0, .int .u8 0, .int .u8 0], ⟨by simp, .inr ⟨w.heap.size, 8, _, rfl, Nat.le_refl _, heap_alloc_new w _, Nat.le_refl _, by decide, by simp, by simp⟩⟩, rfl, by simp [leb, bys], below_new _ _ _⟩
theorem eig_step {w wr : World} {D k : Nat} (h : Eig w wr D k) (hk : k < 8) : Eig w (wr.setCell ⟨w.heap.size, k, none⟩ (.int .u8 ((D : Int) / 2 ^ (8 * k) % 256))) D (k + 1) := by
  obtain ⟨cs, hh, hl, ht, hb⟩ := h
  refine ⟨cs.set k (.int .u8 ((D : Int) / 2 ^ (8 * k) % 256)), (hh.stored k _).1, by simp [hl], ?_, hb.setCell (Nat.le_refl _) _⟩
  rw [leb_succ, bys_append, ← ht, byte_of_shift]
  rw [List.take_succ_eq_append_getElem (by simp [hl, hk])]
  simp [bys, List.take_set_of_le]
set_option maxRecDepth 100000 in
set_option maxHeartbeats 1000000 in
theorem dbytes_any (d : Nat) (w : World) :
    Calls Try.prog 40 #[.int .u64 d] w (OwnBytes w (leb d 8) 8) := by
  have hmk := make8 w
  go_enter Try.func40, Try.ntmps40
  go_wp2_with fail
  clear hmk
  go_loopw [8] (fun i wr => ∃ k : Nat, k ≤ 8 ∧ i = .int .i64 k ∧ Eig w wr d k) (fun i _ => 8 - (intOf i).toNat)
  case atStart => exact ⟨0, by omega, rfl, eig_start w d⟩
  case round =>
    obtain ⟨k, hk, rfl, he⟩ := hrel
    have HE := hid he
    by_cases hlt : k < 8
    · obtain ⟨cs, hh, hl, _, _⟩ := he
      obtain ⟨v, hv⟩ : ∃ v, cs[k]? = some v := ⟨_, List.getElem?_eq_getElem (by omega)⟩
      have hc : wr.cell? ⟨w.heap.size, k, none⟩ = some v := by rw [hh.cellAt k (by omega)]; exact hv
      have hf := hh.frozenAt k
      have HST := hid (eig_step HE.out hlt)
      clear hh hl hv
      go_wp2
      go_roundw
      case rel => exact ⟨k + 1, by omega, by go_num, HST.out⟩
      case measure => simp [intOf]; omega
    · obtain rfl : k = 8 := by omega
      clear he
      go_wp2
      go_ret
      obtain ⟨cs, hh, hl, ht, hb⟩ := HE.out
      rw [List.take_of_length_le (by omega)] at ht
      subst ht
      exact ⟨_, _, rfl, hh, hb⟩
end Go.Proofs.Ytmhmaodnkifcaaa
