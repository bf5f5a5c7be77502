/-
  WireTen, walked.
-/
import Derived.Test.YtblmmnmkbiggiaaLawW0
import Derived.Test.YtblmmnmkbiggiaaUse
namespace Go.Proofs.Ytblmmnmkbiggiaa
open Go.RowKit

/-- The array in memory, whatever bytes it holds. -/
def Eleven (w wr : World) : Prop := ∃ l : List UInt8, l.length = 11 ∧ wr.heap[w.heap.size]? = some (.cells (bys l).toArray 31 (0, 0)) ∧ Below w.heap.size w wr

theorem eleven_set {w wr : World} {l : List UInt8} (hl : l.length = 11) (hh : wr.heap[w.heap.size]? = some (.cells (bys l).toArray 31 (0, 0))) (hb : Below w.heap.size w wr) (i : Nat) (y : UInt8) :
    Eleven w (wr.setCell ⟨w.heap.size, i, none⟩ (.int .u8 (y.toNat : Int))) := by
  refine ⟨l.set i y, by simp [hl], ?_, hb.setCell (Nat.le_refl _) _⟩
  rw [← bys_set]
  simp [World.setCell, Array.getElem?_modify, hh, u8v]

theorem eleven_sl {w wr : World} {l : List UInt8} (hh : wr.heap[w.heap.size]? = some (.cells (bys l).toArray 31 (0, 0))) : Sl wr (w.heap.size + 1) (some ⟨w.heap.size, 0, none⟩) (bys l) := by
  refine .inr ⟨_, _, rfl, by omega, fun j u hu => ?_⟩
  simp [World.cell?, hh, hu]

set_option maxRecDepth 100000 in
set_option maxHeartbeats 1000000 in
theorem law_ten (l : List UInt8) (t u : Nat) (w : World) (hl : l.length = 11) (hu : u < 256) :
    Calls Try.prog 6 #[.agg (bys l).toArray, .int .u16 t, .int .u8 u] w fun e w' => e = .returned (.bool true) ∧ Below w.heap.size w w' := by
  have h0 : Eleven w (w.alloc (.cells (bys l).toArray 31)) := ⟨l, hl, heap_alloc_new w _, below_new w _ _⟩
  have H0 := hid h0
  clear h0 hl
  obtain ⟨cs, hcs⟩ : ∃ cs, cs = (bys l).toArray := ⟨_, rfl⟩
  rw [← hcs] at H0 ⊢
  clear hcs
  go_enter Try.func6, Try.ntmps6
  go_wp2_with fail
  go_loopw [8] (fun i wr => ∃ k : Nat, k ≤ 11 ∧ i = .int .i64 k ∧ Eleven w wr) (fun i _ => 11 - (intOf i).toNat)
  case atStart => exact ⟨0, by omega, rfl, H0.out⟩
  case round =>
    obtain ⟨k, hk, rfl, l, hl, hh, hb⟩ := hrel
    by_cases hlt : k < 11
    · obtain ⟨y, hy⟩ : ∃ y, l[k]? = some y := ⟨_, List.getElem?_eq_getElem (by omega)⟩
      have hcell : wr.cell? ⟨w.heap.size, k, none⟩ = some (.int .u8 (y.toNat : Int)) := by simp [World.cell?, hh, bys, hy, u8v]
      have hfr : wr.frozen? ⟨w.heap.size, k, none⟩ = false := by simp [World.frozen?, hh]
      have hor : bits .or .u8 (y.toNat : Int) 128 = ((y ||| 128).toNat : Int) := by
        have := u8_or_nat y.toNat 128 y.toNat_lt (by decide)
        rw [UInt8.toNat_or]
        exact this
      have HS := hid (eleven_set hl hh hb k (y ||| 128))
      have HE := hid (show Eleven w wr from ⟨l, hl, hh, hb⟩)
      clear hy hl hh hb
      go_wp2
      · go_roundw
        case rel => exact ⟨k + 1, by omega, by go_num, HS.out⟩
        case measure => simp [intOf]; omega
      · go_roundw
        case rel => exact ⟨k + 1, by omega, by go_num, HE.out⟩
        case measure => simp [intOf]; omega
    · have HB := hid hb
      have s1 := (eleven_sl hh).mono (B' := wr.heap.size) (by have := (Array.getElem?_eq_some_iff.1 hh).1; omega)
      clear hh hb
      go_wp2_with fail
      refine (awake_any _).mono ?_
      rintro e w3 ⟨rfl, hb3⟩
      have s3 := s1.go hb3
      have HB3 := hid (below_go HB.out hb3)
      clear hb3 s1
      obtain ⟨m, hm⟩ : ∃ m, m = 8 + u % 4 := ⟨_, rfl⟩
      have hM : (8 : Int) + (u : Int) % 4 = (m : Int) := by omega
      have hm11 : m ≤ 11 := by omega
      clear hm
      go_wp2_with fail
      refine (same_any _ m _ _ (l.take m) _ (by rw [List.length_take]; omega) (by omega) (by rw [bys_take]; exact s3.take m) (Nat.le_refl _) (by omega)).mono ?_
      rintro e w9 ⟨rfl, hb9⟩
      go_wp2
      go_ret
      exact ⟨rfl, below_go HB3.out hb9⟩

theorem law_ten_z (zs : List Int) (t u : Nat) (w : World) (hz : zs.length = 11) (hw : ∀ z ∈ zs, (Lit.int .u8 z).wf = true) (hu : u < 256) :
    Calls Try.prog 6 #[.agg (zs.map (Value.int .u8)).toArray, .int .u16 t, .int .u8 u] w fun e w' => e = .returned (.bool true) ∧ Below w.heap.size w w' := by
  obtain ⟨l, rfl⟩ := bytes_of_ints zs hw
  have e : (l.map fun c : UInt8 => (c.toNat : Int)).map (Value.int .u8) = bys l := by simp [bys, u8v]
  rw [e]
  exact law_ten l t u w (by simpa using hz) hu
end Go.Proofs.Ytblmmnmkbiggiaa
