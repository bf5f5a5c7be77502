/-
  The reference's digests for each record.
-/
import Derived.Test.YtmhmaodnkifcaaaDigR
import Derived.Test.YtmhmaodnkifcaaaOpen
namespace Go.Proofs.Ytmhmaodnkifcaaa
open Go.RowKit

/-- Records no longer than a law lets them be. -/
def Short (ls : List (List UInt8)) : Prop := ls.length ≤ 1000 ∧ ∀ r ∈ ls, r.length ≤ 1000
theorem Short.at_ {ls : List (List UInt8)} (h : Short ls) (k : Nat) (hk : k < ls.length) : ls[k].length ≤ 1000 := h.2 _ (List.getElem_mem hk)

theorem u64_info : (Try.prog.info? 33).map (fun i => (i.zero, i.size, i.bytes)) = some (some (.int .u64 0), 1, 8) := by kernel_rfl

/-- Digests as the model's numbers. -/
def dnums (l : List Nat) : List Value := nums .u64 (l.map fun x : Nat => (x : Int))
theorem dnums_snoc (l : List Nat) (x : Nat) : dnums (l ++ [x]) = dnums l ++ [.int .u64 x] := by simp [dnums, nums]
theorem dnums_nil : dnums [] = [] := rfl

theorem digs_step (d : Nat) (ls : List (List UInt8)) (k : Nat) (hk : k < ls.length) : digs d (ls.take (k + 1)) = digs d (ls.take k) ++ [chain (lastd d (ls.take k)) ls[k]] := by
  rw [List.take_succ_eq_append_getElem hk, digs_snoc]
theorem lastd_step (d : Nat) (ls : List (List UInt8)) (k : Nat) (hk : k < ls.length) : lastd d (ls.take (k + 1)) = chain (lastd d (ls.take k)) ls[k] := by
  rw [List.take_succ_eq_append_getElem hk, lastd_snoc]

set_option maxHeartbeats 1000000 in
theorem rdigests_any (A : Option Addr) (n c B : Nat) (vs : List Value) (ls : List (List UInt8)) (w : World) (hn : ls.length = n) (hs : Sl w B A vs) (hr : RowsOf w B vs ls) (hB : B ≤ w.heap.size) (hsh : Short ls) :
    Calls Try.prog 61 #[.slice A n c] w fun e w' => ∃ A' c', e = .returned (.slice A' n c') ∧ w'.ownsRow w.heap.size 33 1 (.slice A' n c') n (dnums (digs fStart ls)) ∧ Below w.heap.size w w' := by
  have HN := hid hn
  have hn1 : n ≤ 1000 := by have := hsh.1; omega
  clear hn
  have H0 := hid (rsum_any none 0 0 0 [] w rfl (.inl rfl) (Nat.zero_le _))
  go_enter Try.func61, Try.ntmps61
  go_wp2_with fail
  refine H0.out.mono ?_
  rintro e w0 ⟨rfl, rfl⟩
  go_wp2
  go_loopw [3, 4, 5] (fun v d i wr => ∃ (k : Nat) (A' : Option Addr) (c' : Nat), k ≤ n ∧ i = .int .i64 k ∧ d = .int .u64 (lastd fStart (ls.take k)) ∧ v = .slice A' k c' ∧
      wr.ownsRow w.heap.size 33 1 (.slice A' k c') k (dnums (digs fStart (ls.take k))) ∧ Below w.heap.size w wr) (fun _ _ i _ => n - (intOf i).toNat)
  case atStart => exact ⟨0, none, 0, by omega, rfl, by rw [List.take_zero, lastd_nil, fnv_nil], rfl, World.ownsRow_nil _ _ _ _, Below.refl _ _⟩
  case round =>
    obtain ⟨k, A', c', hk, rfl, rfl, rfl, hown, hb⟩ := hrel
    by_cases hlt : k < n
    · have hlt' : k < ls.length := by rw [HN.out]; exact hlt
      have hb' := hb.mono hB
      obtain ⟨b, off, rfl, _, g⟩ := (hs.below hb').at_ (k := k) (by rw [hr.1]; exact hlt')
      obtain ⟨Ar, cr, e1, e2, e3, e4⟩ := (hr.below hb').2 k hlt'
      obtain ⟨hv, e1⟩ := List.getElem?_eq_some_iff.1 e1
      rw [e1] at g
      have hsz := hb.size
      have HC := hid (rchain_any Ar ls[k].length cr B (lastd fStart (ls.take k)) ls[k] wr rfl e4 (by have := hsh.at_ k hlt'; omega) (Nat.le_trans hB hsz))
      have HD := hid (digs_step fStart ls k hlt')
      have HL := hid (lastd_step fStart ls k hlt')
      have HB := hid hb
      have HO := hid hown
      clear hs hr hb' e1 e2 e3 e4 hb hown
      go_wp2_with fail
      refine HC.out.mono ?_
      rintro e w1 ⟨rfl, hb1⟩
      have hown1 := own_below HO.out hb1
      have hb2 := HB.out.trans (hb1.mono hsz)
      have hsz2 := hb2.size
      go_wp2_with (at_builtin; refine wp_app1 Try.underlying106 u64_info rfl (by decide) rfl (.tmp 19) (.tmp 21) rfl w.heap.size A' k c' _ rfl (hown1.alloc _) (some ⟨w1.heap.size, 0, none⟩) (w1.heap.size + 1) 1 1 [.int .u64 (chain (lastd fStart (ls.take k)) ls[k])] rfl rfl (Sl.new w1 #[_] _ _) (by simp [Value.oneCell']) (k + 1) rfl (by omega) (by simp; omega) ?_)
      intro A2 c2 w2 hown2 hg2 _
      have hb3 := (hb2.alloc hsz2 _).grown hg2 (by simp; omega) (own_lt hown1)
      rw [← dnums_snoc, ← HD.out] at hown2
      clear hown1 hb2 hg2 hb1
      have HB3 := hid hb3
      clear hb3
      go_wp2
      go_roundw
      case rel => exact ⟨k + 1, A2, c2, by omega, by go_num, by rw [HL.out], rfl, hown2, HB3.out⟩
      case measure => simp [intOf]; omega
    · obtain rfl : k = n := by omega
      have HB := hid hb
      have HO := hid hown
      clear hb hown hs hr
      go_wp2
      go_ret
      exact ⟨A', c', rfl, by have := HO.out; rwa [List.take_of_length_le (by rw [HN.out]; omega)] at this, HB.out⟩

end Go.Proofs.Ytmhmaodnkifcaaa
