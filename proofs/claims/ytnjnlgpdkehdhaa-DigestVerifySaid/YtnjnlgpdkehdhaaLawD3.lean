/-
  The reference's digests for each record, the test for few records, and DigestChain, walked.
-/
import Derived.Test.YtnjnlgpdkehdhaaDigS
import Derived.Test.YtnjnlgpdkehdhaaLawD1
namespace Go.Proofs.Ytnjnlgpdkehdhaa
open Go.RowKit

set_option maxHeartbeats 1000000 in
theorem rdigests_any (A : Option Addr) (n c B : Nat) (vs : List Value) (ls : List (List UInt8)) (w : World) (hn : ls.length = n) (hs : Sl w B A vs) (hr : RowsOf w B vs ls) (hB : B ≤ w.heap.size) (hsh : Short ls) :
    Calls Try.prog 17 #[.slice A n c] w fun e w' => ∃ A' c', e = .returned (.slice A' n c') ∧ w'.ownsRow w.heap.size 23 1 (.slice A' n c') n (dnums (digs fStart ls)) ∧ Below w.heap.size w w' := by
  have HN := hid hn
  have hn1 : n ≤ 1000 := by have := hsh.1; omega
  clear hn
  have H0 := hid (rsum_any none 0 0 0 [] w rfl (.inl rfl) (Nat.zero_le _))
  go_enter Try.func17, Try.ntmps17
  go_wp2_with fail
  refine H0.out.mono ?_
  rintro e w0 ⟨rfl, rfl⟩
  go_wp2
  go_loopw [3, 4, 5] (fun v d i wr => ∃ (k : Nat) (A' : Option Addr) (c' : Nat), k ≤ n ∧ i = .int .i64 k ∧ d = .int .u64 (lastd fStart (ls.take k)) ∧ v = .slice A' k c' ∧
      wr.ownsRow w.heap.size 23 1 (.slice A' k c') k (dnums (digs fStart (ls.take k))) ∧ Below w.heap.size w wr) (fun _ _ i _ => n - (intOf i).toNat)
  case atStart => exact ⟨0, none, 0, by omega, rfl, by rw [List.take_zero, lastd_nil, fnv_nil], rfl, World.ownsRow_nil _ _ _ _, Below.refl _ _⟩
  case round =>
    obtain ⟨k, A', c', hk, rfl, rfl, rfl, hown, hb⟩ := hrel
    by_cases hlt : k < n
    · have hlt' : k < ls.length := by rw [HN.out]; exact hlt
      have hb' := hb.mono hB
      obtain ⟨b, off, rfl, _, g⟩ := (hs.below hb').at_ (k := k) (by rw [hr.1]; exact hlt')
      obtain ⟨Ar, cr, e1, e2, e3, e4⟩ := (hr.below hb').2 k hlt'
      obtain ⟨hv, e1⟩ := List.getElem?_eq_some_iff.1 e1
      rw [e1] at g
      have hsz := hb.size
      have HC := hid (rchain_any Ar ls[k].length cr B (lastd fStart (ls.take k)) ls[k] wr rfl e4 (by have := hsh.at_ k hlt'; omega) (Nat.le_trans hB hsz))
      have HD := hid (digs_step fStart ls k hlt')
      have HL := hid (lastd_step fStart ls k hlt')
      have HB := hid hb
      have HO := hid hown
      clear hs hr hb' e1 e2 e3 e4 hb hown
      go_wp2_with fail
      refine HC.out.mono ?_
      rintro e w1 ⟨rfl, hb1⟩
      have hown1 := own_below HO.out hb1
      have hb2 := HB.out.trans (hb1.mono hsz)
      have hsz2 := hb2.size
      go_wp2_with (at_builtin; refine wp_app1 Try.underlying33 u64_info rfl (by decide) rfl (.tmp 19) (.tmp 21) rfl w.heap.size A' k c' _ rfl (hown1.alloc _) (some ⟨w1.heap.size, 0, none⟩) (w1.heap.size + 1) 1 1 [.int .u64 (chain (lastd fStart (ls.take k)) ls[k])] rfl rfl (Sl.new w1 #[_] _ _) (by simp [Value.oneCell']) (k + 1) rfl (by omega) (by simp; omega) ?_)
      intro A2 c2 w2 hown2 hg2 _
      have hb3 := (hb2.alloc hsz2 _).grown hg2 (by simp; omega) (own_lt hown1)
      rw [← dnums_snoc, ← HD.out] at hown2
      clear hown1 hb2 hg2 hb1
      have HB3 := hid hb3
      clear hb3
      go_wp2
      go_roundw
      case rel => exact ⟨k + 1, A2, c2, by omega, by go_num, by rw [HL.out], rfl, hown2, HB3.out⟩
      case measure => simp [intOf]; omega
    · obtain rfl : k = n := by omega
      have HB := hid hb
      have HO := hid hown
      clear hb hown hs hr
      go_wp2
      go_ret
      exact ⟨A', c', rfl, by have := HO.out; rwa [List.take_of_length_le (by rw [HN.out]; omega)] at this, HB.out⟩

/-- Few and short records. -/
def Few (ls : List (List UInt8)) : Prop := ls.length ≤ 12 ∧ ∀ r ∈ ls, r.length ≤ 60
theorem Few.short {ls : List (List UInt8)} (h : Few ls) : Short ls := ⟨Nat.le_trans h.1 (by decide), fun r hr => Nat.le_trans (h.2 r hr) (by decide)⟩

set_option maxHeartbeats 400000 in
theorem few_yes (A : Option Addr) (n c B : Nat) (vs : List Value) (ls : List (List UInt8)) (w : World) (hn : ls.length = n) (hs : Sl w B A vs) (hr : RowsOf w B vs ls) (hf : Few ls) :
    Calls Try.prog 14 #[.slice A n c] w fun e w' => e = .returned (.bool true) ∧ w = w' := by
  have HN := hid hn
  have h12 : n ≤ 12 := by have := hf.1; omega
  clear hn
  go_enter Try.func14, Try.ntmps14
  go_wp2
  go_loop [3] (fun i => ∃ k : Nat, k ≤ n ∧ i = .int .i64 k) (fun i => n - (intOf i).toNat)
  case atStart => exact ⟨0, Nat.zero_le _, rfl⟩
  case round =>
    obtain ⟨k, hk, rfl⟩ := hrel
    by_cases hlt : k < n
    · have hlt' : k < ls.length := by rw [HN.out]; exact hlt
      obtain ⟨b, off, rfl, _, g⟩ := hs.at_ (k := k) (by rw [hr.1]; exact hlt')
      obtain ⟨Ar, cr, e1, _⟩ := hr.2 k hlt'
      obtain ⟨hv, e1⟩ := List.getElem?_eq_some_iff.1 e1
      rw [e1] at g
      have h60 : ls[k].length ≤ 60 := hf.2 _ (List.getElem_mem hlt')
      clear e1 hs hr hf
      go_wp2
      go_round
      case rel => exact ⟨k + 1, by omega, by go_num⟩
      case measure => simp [intOf]; omega
    · clear hs hr hf
      go_wp2
      go_ret
      exact ⟨rfl, rfl⟩

set_option maxHeartbeats 400000 in
theorem few_no (A : Option Addr) (n c B : Nat) (vs : List Value) (ls : List (List UInt8)) (w : World) (hn : ls.length = n) (hs : Sl w B A vs) (hr : RowsOf w B vs ls) (hf : ¬ Few ls) :
    Calls Try.prog 14 #[.slice A n c] w fun e w' => e = .returned (.bool false) ∧ w = w' := by
  have HN := hid hn
  by_cases h12 : n ≤ 12
  · have HF := hid hf
    clear hn hf
    go_enter Try.func14, Try.ntmps14
    go_wp2
    go_loop [3] (fun i => ∃ k : Nat, k ≤ n ∧ i = .int .i64 k ∧ ∀ r ∈ ls.take k, r.length ≤ 60) (fun i => n - (intOf i).toNat)
    case atStart => exact ⟨0, Nat.zero_le _, rfl, by simp⟩
    case round =>
      obtain ⟨k, hk, rfl, hall⟩ := hrel
      have HA := hid hall
      clear hall
      by_cases hlt : k < n
      · have hlt' : k < ls.length := by rw [HN.out]; exact hlt
        obtain ⟨b, off, rfl, _, g⟩ := hs.at_ (k := k) (by rw [hr.1]; exact hlt')
        obtain ⟨Ar, cr, e1, _⟩ := hr.2 k hlt'
        obtain ⟨hv, e1⟩ := List.getElem?_eq_some_iff.1 e1
        rw [e1] at g
        clear e1 hs hr
        by_cases h60 : ls[k].length ≤ 60
        · go_wp2
          go_round
          case rel => exact ⟨k + 1, by omega, by go_num, fun r hr => by
            rw [List.take_succ_eq_append_getElem hlt', List.mem_append] at hr
            rcases hr with hr | hr
            · exact HA.out r hr
            · simp at hr; rw [hr]; exact h60⟩
          case measure => simp [intOf]; omega
        · go_wp2
          go_ret
          exact ⟨rfl, rfl⟩
      · exfalso
        refine HF.out ⟨by rw [HN.out]; exact h12, fun r hr => HA.out r ?_⟩
        rw [List.take_of_length_le (by rw [HN.out]; omega)]
        exact hr
  · clear hn hf hs hr
    go_enter Try.func14, Try.ntmps14
    go_wp2
    go_ret
    exact ⟨rfl, rfl⟩

theorem law_chain (A : Option Addr) (n c : Nat) (vs : List Value) (ls : List (List UInt8)) (w : World) (hn : ls.length = n) (hs : Sl w w.heap.size A vs) (hr : RowsOf w w.heap.size vs ls) :
    Calls Try.prog 5 #[.slice A n c] w fun e w' => e = .returned (.bool true) ∧ Below w.heap.size w w' := by
  by_cases hf : Few ls
  · have H := hid (few_yes A n c _ vs ls w hn hs hr hf)
    have HN := hid hn
    have hsh := hf.short
    clear hn
    go_enter Try.func5, Try.ntmps5
    go_wp2_with fail
    refine H.out.mono ?_
    rintro e w1 ⟨rfl, rfl⟩
    go_wp2_with fail
    refine (awake_any _).mono ?_
    rintro e w1 ⟨rfl, hb1⟩
    go_wp2_with fail
    refine (digests_any A n c _ vs ls _ HN.out (hs.below hb1) (hr.below hb1) hb1.size hsh).mono ?_
    rintro e w2 ⟨A2, c2, rfl, ho2, hb2⟩
    have hb12 := hb1.trans (hb2.mono hb1.size)
    go_wp2_with fail
    refine (rdigests_any A n c _ vs ls _ HN.out (hs.below hb12) (hr.below hb12) hb12.size hsh).mono ?_
    rintro e w3 ⟨A3, c3, rfl, ho3, hb3⟩
    have s2 := (Sl.of_own ho2).below hb3
    have s3 := Sl.of_own ho3
    have hn3 : ((digs fStart ls).map fun x : Nat => (x : Int)).length = n := by rw [List.length_map, digs_length, HN.out]
    have HC := hid (same_yes A2 A3 n c2 c3 _ _ _ w3 hn3 s2 s3 hb3.size (Nat.le_refl _) (by have := hsh.1; have := HN.out; unfold maxLen; omega))
    have HB := hid (hb12.trans (hb3.mono hb12.size))
    clear hn3 s2 s3 ho2 ho3 hb3 hb12 hb2 hb1 hs hr hsh
    go_wp2_with fail
    refine HC.out.mono ?_
    rintro e w4 ⟨rfl, hb4⟩
    go_wp2
    go_ret
    exact ⟨rfl, HB.out.trans (hb4.mono HB.out.size)⟩
  · have H := hid (few_no A n c _ vs ls w hn hs hr hf)
    clear hn hs hr hf
    go_enter Try.func5, Try.ntmps5
    go_wp2_with fail
    refine H.out.mono ?_
    rintro e w1 ⟨rfl, rfl⟩
    go_wp2_with fail
    refine (awake_any _).mono ?_
    rintro e w1 ⟨rfl, hb1⟩
    go_wp2
    go_ret
    exact ⟨rfl, hb1⟩
end Go.Proofs.Ytnjnlgpdkehdhaa
