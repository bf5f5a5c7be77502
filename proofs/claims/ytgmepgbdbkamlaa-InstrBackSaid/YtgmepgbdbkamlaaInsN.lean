/-
  The names of the instructions, in the package (an array of its own block) and in the reference (a slice).
-/
import Derived.Test.YtgmepgbdbkamlaaInsT
import Derived.Deep.WholeRow
namespace Go.Proofs.Ytgmepgbdbkamlaa
open Go.RowKit

theorem wpList_build {P : Program} {w : World} {ops : Array Oper} {rest : List Oper} {o : Oper} {a : Act} {Q : Exit → Act → World → Prop} {v : Value} {t : TypeId} {ps : Array (Nat × Operand)} (ho : o.op = .build t ps) (hgd : o.guard = none)
    (hrun : (Instr.build t (ps.map fun (i, x) => (i, a.eval x))).run P w = .ok v w) (h : wpList P ops Q rest (a.put o.dst v) w) : wpList P ops Q (o :: rest) a w :=
  wpList_plain hgd fun _ hK => by
    unfold Oper.wp execOp
    simp only [ho, Sem.run_bind, hrun, Result.andThen_ok, Sem.run_pure]
    exact hK _ _ h
theorem wpList_buildSlice {P : Program} {w w' : World} {ops : Array Oper} {rest : List Oper} {o : Oper} {a : Act} {Q : Exit → Act → World → Prop} {v : Value} {t : TypeId} {len : Nat} {ps : Array (Nat × Operand)} (ho : o.op = .buildSlice t len ps) (hgd : o.guard = none)
    (hrun : (Instr.buildSlice t len (ps.map fun (i, x) => (i, a.eval x))).run P w = .ok v w') (h : wpList P ops Q rest (a.put o.dst v) w') : wpList P ops Q (o :: rest) a w :=
  wpList_plain hgd fun _ hK => by
    unfold Oper.wp execOp
    simp only [ho, Sem.run_bind, hrun, Result.andThen_ok, Sem.run_pure]
    exact hK _ _ h
/-- A whole array into the block that was made last, where the walk stands at a list of operations. -/
theorem wpList_store_new {P : Program} {w : World} {ops : Array Oper} {rest : List Oper} {o : Oper} {a : Act} {Q : Exit → Act → World → Prop} (x y : Operand) (t : TypeId) (c c' : Array Value) (hgd : o.guard = none)
    (ho : o.op = .store t x y) (hx : a.eval x = .pointer (some ⟨w.heap.size, 0, none⟩)) (hy : a.eval y = .agg c')
    (hi : (P.info? t).map (·.size) = some c'.size) (hs : c.size = c'.size) (h1 : c'.all (·.oneCell') = true)
    (h : wpList P ops Q rest (a.put o.dst undef) (w.alloc (.cells c' t))) : wpList P ops Q (o :: rest) a (w.alloc (.cells c t)) :=
  wpList_plain hgd fun _ hK => by
    unfold Oper.wp execOp
    simp only [ho, hx, hy, Sem.run_bind, run_storeAt_new w t c c' hi hs h1, Result.andThen_ok, Sem.run_pure]
    exact hK _ _ h

def namesL : List String := ["", "push", "get", "set", "drop", "dup", "add", "sub", "mul", "div", "rem", "and", "or", "xor", "shl", "shr", "eq", "less", "zero", "jump", "jumpz", "call", "ret", "host", "trap", "halt"]
def namesB : List ByteArray := namesL.map String.toUTF8
def namesV : Array Value := (namesB.map Value.string).toArray
def nameS (k : Int) : ByteArray := if 1 ≤ k ∧ k ≤ 25 then namesB.getD k.toNat ⟨#[]⟩ else ⟨#[]⟩
theorem nameS_out (k : Int) (h : k < 1 ∨ 25 < k) : nameS k = ⟨#[]⟩ := by unfold nameS; rw [if_neg]; omega
theorem known_in (k : Int) (h : 1 ≤ k ∧ k ≤ 25) : knownS k = true := by
  rcases cases27 k with h' | rfl | rfl | rfl | rfl | rfl | rfl | rfl | rfl | rfl | rfl | rfl | rfl | rfl | rfl | rfl | rfl | rfl | rfl | rfl | rfl | rfl | rfl | rfl | rfl | rfl
  · omega
  all_goals rfl
theorem known_out (k : Int) (h : k < 1 ∨ 25 < k) : knownS k = false := tab_out _ _ k h
theorem namesB_len : namesB.length = 26 := rfl
theorem nameS_in (k : Int) (h : 1 ≤ k ∧ k ≤ 25) : namesV[k.toNat]? = some (.string (nameS k)) := by
  unfold nameS
  rw [if_pos h]
  have hk : k.toNat < namesB.length := by rw [namesB_len]; omega
  simp [namesV, List.getD, List.getElem?_eq_getElem hk]
theorem namesV_size : namesV.size = 26 := by unfold namesV; simp [namesB_len]

theorem name_cell (w : World) (t : TypeId) (k : Int) (h : 1 ≤ k ∧ k ≤ 25) : (w.alloc (.cells namesV t)).cell? ⟨w.heap.size, k.toNat, none⟩ = some (.string (nameS k)) := by
  have := nameS_in k h
  simp [go_sem]
  exact this

set_option maxHeartbeats 1000000 in
theorem name_any (k : Int) (w : World) :
    Calls Try.prog 13 #[.int .i64 k] w fun e w' => e = .returned (.string (nameS k)) ∧ Below w.heap.size w w' := by
  by_cases h : 1 ≤ k ∧ k ≤ 25
  · obtain ⟨j, rfl⟩ := Int.eq_ofNat_of_zero_le (show 0 ≤ k by omega)
    have hj1 : 1 ≤ j := by omega
    have hj2 : j ≤ 25 := by omega
    have KI := known_in j h
    have NC := hid (name_cell w 53 j h)
    clear h
    go_enter Try.func13, Try.ntmps13
    go_wp2_with (first | refine wpList_build (v := .agg namesV) (by rfl) (by rfl) (by kernel_rfl) ?_ | refine wpList_store_new (.tmp 3) (.tmp 4) 53 _ namesV (by rfl) (by rfl) (by rfl) (by rfl) (by kernel_rfl) (by kernel_rfl) (by kernel_rfl) ?_)
    refine (known_any _ _).mono ?_
    rintro e w1 ⟨rfl, rfl⟩
    have nc := NC.out
    have e1 : (j : Int).toNat = j := by omega
    rw [e1] at nc
    clear e1
    go_wp2
    go_ret
    exact ⟨rfl, below_new _ _ _⟩
  · have KO := known_out k (by omega)
    rw [nameS_out k (by omega)]
    clear h
    go_enter Try.func13, Try.ntmps13
    go_wp2_with (first | refine wpList_build (v := .agg namesV) (by rfl) (by rfl) (by kernel_rfl) ?_ | refine wpList_store_new (.tmp 3) (.tmp 4) 53 _ namesV (by rfl) (by rfl) (by rfl) (by rfl) (by kernel_rfl) (by kernel_rfl) (by kernel_rfl) ?_)
    refine (known_any _ _).mono ?_
    rintro e w1 ⟨rfl, rfl⟩
    go_wp2
    go_ret
    exact ⟨rfl, below_new _ _ _⟩

set_option maxHeartbeats 1000000 in
theorem rname_any (k : Int) (w : World) :
    Calls Try.prog 26 #[.int .i64 k] w fun e w' => e = .returned (.string (nameS k)) ∧ Below w.heap.size w w' := by
  by_cases h : 1 ≤ k ∧ k ≤ 25
  · obtain ⟨j, rfl⟩ := Int.eq_ofNat_of_zero_le (show 0 ≤ k by omega)
    have hj1 : 1 ≤ j := by omega
    have hj2 : j ≤ 25 := by omega
    have KI := known_in j h
    have NC := hid (name_cell w 9 j h)
    clear h
    go_enter Try.func26, Try.ntmps26
    go_wp2_with (refine wpList_buildSlice (v := .slice (some ⟨w.heap.size, 0, none⟩) 26 26) (w' := w.alloc (.cells namesV 9)) (by rfl) (by rfl) (by kernel_rfl) ?_)
    refine (rknown_any _ _).mono ?_
    rintro e w1 ⟨rfl, rfl⟩
    have nc := NC.out
    have e1 : (j : Int).toNat = j := by omega
    rw [e1] at nc
    clear e1
    go_wp2
    go_ret
    exact ⟨rfl, below_new _ _ _⟩
  · have KO := known_out k (by omega)
    rw [nameS_out k (by omega)]
    clear h
    go_enter Try.func26, Try.ntmps26
    go_wp2_with (refine wpList_buildSlice (v := .slice (some ⟨w.heap.size, 0, none⟩) 26 26) (w' := w.alloc (.cells namesV 9)) (by rfl) (by rfl) (by kernel_rfl) ?_)
    refine (rknown_any _ _).mono ?_
    rintro e w1 ⟨rfl, rfl⟩
    go_wp2
    go_ret
    exact ⟨rfl, below_new _ _ _⟩
end Go.Proofs.Ytgmepgbdbkamlaa
