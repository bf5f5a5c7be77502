/-
  SameEvents of the reference: true of a list and itself.
-/
import Derived.Test.YtmhmaodnkifcaaaAuRow
import Derived.Test.YtmhmaodnkifcaaaTapeEv
import Derived.Deep.QuietTactic
import Derived.BigQuiet
import Derived.WalkSmall
namespace Go.Proofs.Ytmhmaodnkifcaaa
open Go.RowKit
set_option linter.unusedSimpArgs false
set_option linter.unusedVariables false

/-- The cells of the k-th event of a slice. -/
theorem sl_ev {w : World} {B : Nat} {A : Option Addr} {es : List Ev} (h : Sl w B A (evs es)) {k : Nat} (hk : k < es.length) :
    ∃ b off, A = some ⟨b, off, none⟩ ∧ b < B ∧
      w.cell? ⟨b, off + k * 5, none⟩ = some (.int .i64 (es[k].1 : Int)) ∧ w.cell? ⟨b, off + k * 5 + 1, none⟩ = some (.int .i64 (es[k].2.1 : Int)) ∧ w.cell? ⟨b, off + k * 5 + 2, none⟩ = some (.int .u64 (es[k].2.2.1 : Int)) ∧
      w.cell? ⟨b, off + k * 5 + 3, none⟩ = some (.int .u64 (es[k].2.2.2.1 : Int)) ∧ w.cell? ⟨b, off + k * 5 + 4, none⟩ = some (.int .i64 (es[k].2.2.2.2 : Int)) := by
  rcases h with h | ⟨b, off, hA, hb, hc⟩
  · have := evs_len es
    rw [h] at this
    simp at this
    omega
  · have key : ∀ j v, (evc es[k])[j]? = some v → w.cell? ⟨b, off + k * 5 + j, none⟩ = some v := by
      intro j v hv
      rw [Nat.add_assoc]
      exact hc (k * 5 + j) v (evs_get es k es[k] j v (List.getElem?_eq_getElem hk) hv)
    exact ⟨b, off, hA, hb, key 0 _ rfl, key 1 _ rfl, key 2 _ rfl, key 3 _ rfl, key 4 _ rfl⟩

set_option maxRecDepth 100000 in
set_option maxHeartbeats 1000000 in
theorem samee_any (A1 A2 : Option Addr) (n c1 c2 B1 B2 : Nat) (es : List Ev) (w : World) (hn : es.length = n) (hs1 : Sl w B1 A1 (evs es)) (hs2 : Sl w B2 A2 (evs es)) (hB1 : B1 ≤ w.heap.size) (hB2 : B2 ≤ w.heap.size) (hm : n ≤ 1000000) :
    Calls Try.prog 18 #[.slice A1 n c1, .slice A2 n c2] w fun e w' => e = .returned (.bool true) ∧ Below w.heap.size w w' := by
  have HN := hid hn
  have HS1 := hid hs1
  have HS2 := hid hs2
  clear hn hs1 hs2
  go_enter Try.func18, Try.ntmps18
  go_wp2_with fail
  go_loopw [5] (fun i wr => ∃ k : Nat, k ≤ n ∧ i = .int .i64 k ∧ Below w.heap.size w wr) (fun i _ => n - (intOf i).toNat)
  case atStart => exact ⟨0, Nat.zero_le _, rfl, Below.refl _ _⟩
  case round =>
    obtain ⟨k, hk, rfl, hb⟩ := hrel
    have HB := hid hb
    clear hb
    by_cases hlt : k < n
    · have hk' : k < es.length := by rw [HN.out]; exact hlt
      obtain ⟨b1, o1, rfl, hb1, p0, p1, p2, p3, p4⟩ := sl_ev (HS1.out.keep fun p hp => HB.out.cell (Nat.lt_of_lt_of_le hp hB1)) hk'
      obtain ⟨b2, o2, rfl, hb2, q0, q1, q2, q3, q4⟩ := sl_ev (HS2.out.keep fun p hp => HB.out.cell (Nat.lt_of_lt_of_le hp hB2)) hk'
      obtain ⟨⟨p, o, h, a, x⟩, hev⟩ : ∃ v, es[k] = v := ⟨_, rfl⟩
      rw [hev] at p0 p1 p2 p3 p4 q0 q1 q2 q3 q4
      simp only at p0 p1 p2 p3 p4 q0 q1 q2 q3 q4
      clear hev
      go_wp2_with fail
      go_quiet (fail)
      go_wp2
      go_roundw
      case rel => exact ⟨k + 1, by omega, by go_num, below_drewN HB.out _⟩
      case measure => simp [intOf]; omega
    · go_wp2_with fail
      go_ret
      exact ⟨rfl, HB.out⟩
end Go.Proofs.Ytmhmaodnkifcaaa
