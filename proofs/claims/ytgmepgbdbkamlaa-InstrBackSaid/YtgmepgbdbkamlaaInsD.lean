/-
  instr.Decode and the reference's DecodeInstr.
-/
import Derived.Test.YtgmepgbdbkamlaaLawI2
import Derived.Test.YtgmepgbdbkamlaaWireG
import Derived.Test.YtgmepgbdbkamlaaWireR
namespace Go.Proofs.Ytgmepgbdbkamlaa
open Go.RowKit

/-- The instruction with whose encoding the bytes begin: number, argument, size, error. -/
def decI (l : List UInt8) : Int × Nat × Nat × Nat :=
  match l with
  | [] => (0, 0, 0, 2)
  | b :: t =>
    if knownS b.toNat = false then (0, 0, 0, 22)
    else if hasS b.toNat = false then (b.toNat, 0, 1, 0)
    else if (decU t).2.2 = 0 then (b.toNat, (decU t).1, 1 + (decU t).2.1, 0) else (0, 0, 0, (decU t).2.2)
def ret4 (r : Int × Nat × Nat × Nat) : Value := .tuple #[insv r.1 r.2.1, .int .i64 r.2.2.1, .int .i64 r.2.2.2]

theorem decI_cons (b : UInt8) (t : List UInt8) : decI (b :: t) = if knownS b.toNat = false then (0, 0, 0, 22)
    else if hasS b.toNat = false then ((b.toNat : Int), 0, 1, 0)
    else if (decU t).2.2 = 0 then ((b.toNat : Int), (decU t).1, 1 + (decU t).2.1, 0) else (0, 0, 0, (decU t).2.2) := rfl
theorem decI_1 {b : UInt8} {t : List UInt8} {q : Nat} (hq : b.toNat = q) (hk : knownS q = false) : decI (b :: t) = (0, 0, 0, 22) := by rw [decI_cons, hq, if_pos hk]
theorem decI_2 {b : UInt8} {t : List UInt8} {q : Nat} (hq : b.toNat = q) (hk : knownS q = true) (hh : hasS q = false) : decI (b :: t) = ((q : Int), 0, 1, 0) := by rw [decI_cons, hq, if_neg (by simp [hk]), if_pos hh]
theorem decI_3 {b : UInt8} {t : List UInt8} {q : Nat} (hq : b.toNat = q) (hk : knownS q = true) (hh : hasS q = true) (he : (decU t).2.2 = 0) : decI (b :: t) = ((q : Int), (decU t).1, 1 + (decU t).2.1, 0) := by rw [decI_cons, hq, if_neg (by simp [hk]), if_neg (by simp [hh]), if_pos he]
theorem decI_4 {b : UInt8} {t : List UInt8} {q : Nat} (hq : b.toNat = q) (hk : knownS q = true) (hh : hasS q = true) (he : (decU t).2.2 ≠ 0) : decI (b :: t) = (0, 0, 0, (decU t).2.2) := by rw [decI_cons, hq, if_neg (by simp [hk]), if_neg (by simp [hh]), if_neg he]

set_option maxHeartbeats 1000000 in
theorem idec_nil (A : Option Addr) (c : Nat) (w : World) :
    Calls Try.prog 17 #[.slice A 0 c] w fun e w' => e = .returned (ret4 (decI [])) ∧ Below w.heap.size w w' := by
  go_enter Try.func17, Try.ntmps17
  go_wp2
  refine bodyPost_ret (v := ret4 (decI [])) (by simp [results, Try.results17, go_sem, ret4, decI, insv]) rfl ⟨rfl, below_new _ _ _⟩

set_option maxHeartbeats 2000000 in
theorem idec_cons (A : Option Addr) (m c : Nat) (b : UInt8) (t : List UInt8) (w : World) (hn : t.length = m) (hc : m + 1 ≤ c) (hs : Sl w w.heap.size A (bys (b :: t))) (hm : m ≤ 100000) :
    Calls Try.prog 17 #[.slice A (m + 1) c] w fun e w' => e = .returned (ret4 (decI (b :: t))) ∧ Below w.heap.size w w' := by
  have hcut := hs.cut (k := 1) (c := c) (by simp [hn]; exact hc) 1 rfl
  obtain ⟨blk, off, rfl, hlt, hcell⟩ := hs.at_ (k := 0) (by simp)
  simp only [bys, List.map_cons, List.getElem_cons_zero, u8v, Nat.add_zero] at hcell
  have e1 : (bys (b :: t)).drop 1 = bys t := rfl
  rw [e1] at hcut
  have hb1 := below_new w #[.int .i64 0, .int .u64 0] 24
  have hcell1 := (hb1.cell (p := ⟨blk, off, none⟩) hlt).trans hcell
  have hb2 := below_new (w.alloc (.cells #[.int .i64 0, .int .u64 0] 24)) #[.int .i64 0, .int .u64 0] 24
  have hcell2 := (hb2.cell (p := ⟨blk, off, none⟩) (by simp; omega)).trans hcell1
  clear hb2
  obtain ⟨q, hq⟩ : ∃ q, b.toNat = q := ⟨_, rfl⟩
  rw [hq] at hcell1 hcell2
  have HQ := hid hq
  have hw : wrap64 (q : Int) = q := by have := b.toNat_lt; rw [hq] at this; simp at this; exact (by unfold wrap64; omega)
  clear hq
  have HS := hid hcut
  have HN := hid hn
  have HC := hid hc
  clear hs hcut hn hb1 hcell e1
  cases hk : knownS q
  · have HD := hid (show decI (b :: t) = (0, 0, 0, 22) from decI_1 HQ.out hk)
    go_enter Try.func17, Try.ntmps17
    go_wp2_with fail
    refine (known_any _ _).mono ?_
    rintro e w1 ⟨rfl, rfl⟩
    go_wp2
    rw [HD.out]
    refine bodyPost_ret (v := ret4 (0, 0, 0, 22)) (by simp [results, Try.results17, go_sem, ret4, insv]) rfl ⟨rfl, below_go (below_new _ _ _) (below_new _ _ _)⟩
  · cases hh : hasS q
    · have HD := hid (show decI (b :: t) = ((q : Int), 0, 1, 0) from decI_2 HQ.out hk hh)
      go_enter Try.func17, Try.ntmps17
      go_wp2_with fail
      refine (known_any _ _).mono ?_
      rintro e w1 ⟨rfl, rfl⟩
      go_wp2_with fail
      refine (has_any _ _).mono ?_
      rintro e w1 ⟨rfl, rfl⟩
      go_wp2
      rw [HD.out]
      refine bodyPost_ret (v := ret4 ((q : Int), 0, 1, 0)) (by simp [results, Try.results17, go_sem, ret4, insv]) rfl ⟨rfl, below_go (below_new _ _ _) (below_new _ _ _)⟩
    · obtain ⟨A', hA', hs'⟩ : ∃ A', (if c = 1 then A' = some ⟨blk, off, none⟩ else A' = some ⟨blk, off + 1, none⟩) ∧ Sl w w.heap.size A' (bys t) := by
        have hs' := HS.out
        by_cases c1 : c = 1
        · rw [if_pos c1] at hs'
          exact ⟨_, by rw [if_pos c1], hs'⟩
        · rw [if_neg c1] at hs'
          exact ⟨_, by rw [if_neg c1]; rfl, hs'⟩
      have HA := hid hA'
      have HU := hid (fun (w' : World) (h : Below w.heap.size w w') => uint_any A' m (c - 1) _ t w' HN.out (by have := HC.out; omega) (hs'.go h) (by omega))
      have HDS := hid (decU_size t)
      obtain ⟨x, hx⟩ : ∃ x, (decU t).1 = x := ⟨_, rfl⟩
      obtain ⟨k, hk'⟩ : ∃ k, (decU t).2.1 = k := ⟨_, rfl⟩
      obtain ⟨er, her⟩ : ∃ er, (decU t).2.2 = er := ⟨_, rfl⟩
      have HD := hid (show decI (b :: t) = if er = 0 then ((q : Int), x, 1 + k, 0) else (0, 0, 0, er) by
        by_cases h0 : er = 0
        · rw [if_pos h0, decI_3 HQ.out hk hh (by rw [her, h0]), hx, hk']
        · rw [if_neg h0, decI_4 HQ.out hk hh (by rw [her]; exact h0), her])
      rw [hx, hk', her] at HU
      rw [hk', HN.out] at HDS
      have hkb := HDS.out
      clear hx hk' her hA' hs' HS HQ HC
      have bel := hid (below_go (below_new _ _ _) (below_new _ _ _) : Below w.heap.size w ((w.alloc (.cells #[.int .i64 0, .int .u64 0] 24)).alloc (.cells #[.int .i64 q, .int .u64 0] 24)))
      by_cases c1 : c = 1
      all_goals
        have hA' := HA.out
        simp only [c1, ↓reduceIte] at hA'
        by_cases h0 : er = 0
      all_goals
        have HD' := HD.out
        simp only [h0, ↓reduceIte] at HD'
        have HD2 := hid HD'
        clear HD'
      · subst c1 hA' h0
        obtain rfl : m = 0 := by omega
        go_enter Try.func17, Try.ntmps17
        go_wp2_with fail
        refine (known_any _ _).mono ?_
        rintro e w1 ⟨rfl, rfl⟩
        go_wp2_with fail
        refine (has_any _ _).mono ?_
        rintro e w1 ⟨rfl, rfl⟩
        go_wp2_with fail
        refine (HU.out _ bel.out).mono ?_
        rintro e w1 ⟨rfl, rfl⟩
        go_wp2
        rw [HD2.out]
        refine bodyPost_ret (v := ret4 ((q : Int), x, 1 + k, 0)) (by simp [results, Try.results17, go_sem, ret4, insv]) rfl ⟨rfl, below_go (below_new _ _ _) (below_new _ _ _)⟩
      · subst c1 hA'
        obtain rfl : m = 0 := by omega
        go_enter Try.func17, Try.ntmps17
        go_wp2_with fail
        refine (known_any _ _).mono ?_
        rintro e w1 ⟨rfl, rfl⟩
        go_wp2_with fail
        refine (has_any _ _).mono ?_
        rintro e w1 ⟨rfl, rfl⟩
        go_wp2_with fail
        refine (HU.out _ bel.out).mono ?_
        rintro e w1 ⟨rfl, rfl⟩
        go_wp2
        rw [HD2.out]
        refine bodyPost_ret (v := ret4 (0, 0, 0, er)) (by simp [results, Try.results17, go_sem, ret4, insv]) rfl ⟨rfl, below_go (below_new _ _ _) (below_new _ _ _)⟩
      · subst hA' h0
        go_enter Try.func17, Try.ntmps17
        go_wp2_with fail
        refine (known_any _ _).mono ?_
        rintro e w1 ⟨rfl, rfl⟩
        go_wp2_with fail
        refine (has_any _ _).mono ?_
        rintro e w1 ⟨rfl, rfl⟩
        go_wp2_with fail
        refine (HU.out _ bel.out).mono ?_
        rintro e w1 ⟨rfl, rfl⟩
        go_wp2
        rw [HD2.out]
        refine bodyPost_ret (v := ret4 ((q : Int), x, 1 + k, 0)) (by simp [results, Try.results17, go_sem, ret4, insv]) rfl ⟨rfl, below_go (below_new _ _ _) (below_new _ _ _)⟩
      · subst hA'
        go_enter Try.func17, Try.ntmps17
        go_wp2_with fail
        refine (known_any _ _).mono ?_
        rintro e w1 ⟨rfl, rfl⟩
        go_wp2_with fail
        refine (has_any _ _).mono ?_
        rintro e w1 ⟨rfl, rfl⟩
        go_wp2_with fail
        refine (HU.out _ bel.out).mono ?_
        rintro e w1 ⟨rfl, rfl⟩
        go_wp2
        rw [HD2.out]
        refine bodyPost_ret (v := ret4 (0, 0, 0, er)) (by simp [results, Try.results17, go_sem, ret4, insv]) rfl ⟨rfl, below_go (below_new _ _ _) (below_new _ _ _)⟩

set_option maxHeartbeats 1000000 in
theorem ridec_nil (A : Option Addr) (c : Nat) (w : World) :
    Calls Try.prog 31 #[.slice A 0 c] w fun e w' => e = .returned (ret4 (decI [])) ∧ Below w.heap.size w w' := by
  go_enter Try.func31, Try.ntmps31
  go_wp2
  refine bodyPost_ret (v := ret4 (decI [])) (by simp [results, Try.results31, go_sem, ret4, decI, insv]) rfl ⟨rfl, below_new _ _ _⟩

set_option maxHeartbeats 2000000 in
theorem ridec_cons (A : Option Addr) (m c : Nat) (b : UInt8) (t : List UInt8) (w : World) (hn : t.length = m) (hc : m + 1 ≤ c) (hs : Sl w w.heap.size A (bys (b :: t))) (hm : m ≤ 100000) :
    Calls Try.prog 31 #[.slice A (m + 1) c] w fun e w' => e = .returned (ret4 (decI (b :: t))) ∧ Below w.heap.size w w' := by
  have hcut := hs.cut (k := 1) (c := c) (by simp [hn]; exact hc) 1 rfl
  obtain ⟨blk, off, rfl, hlt, hcell⟩ := hs.at_ (k := 0) (by simp)
  simp only [bys, List.map_cons, List.getElem_cons_zero, u8v, Nat.add_zero] at hcell
  have e1 : (bys (b :: t)).drop 1 = bys t := rfl
  rw [e1] at hcut
  have hb1 := below_new w #[.int .i64 0, .int .u64 0] 24
  have hcell1 := (hb1.cell (p := ⟨blk, off, none⟩) hlt).trans hcell
  obtain ⟨q, hq⟩ : ∃ q, b.toNat = q := ⟨_, rfl⟩
  rw [hq] at hcell1
  have HQ := hid hq
  have hw : wrap64 (q : Int) = q := by have := b.toNat_lt; rw [hq] at this; simp at this; exact (by unfold wrap64; omega)
  clear hq
  have HS := hid hcut
  have HN := hid hn
  have HC := hid hc
  clear hs hcut hn hb1 hcell e1
  cases hk : knownS q
  · have HD := hid (show decI (b :: t) = (0, 0, 0, 22) from decI_1 HQ.out hk)
    go_enter Try.func31, Try.ntmps31
    go_wp2_with fail
    refine (rknown_any _ _).mono ?_
    rintro e w1 ⟨rfl, rfl⟩
    go_wp2
    rw [HD.out]
    refine bodyPost_ret (v := ret4 (0, 0, 0, 22)) (by simp [results, Try.results31, go_sem, ret4, insv]) rfl ⟨rfl, below_new _ _ _⟩
  · cases hh : hasS q
    · have HD := hid (show decI (b :: t) = ((q : Int), 0, 1, 0) from decI_2 HQ.out hk hh)
      go_enter Try.func31, Try.ntmps31
      go_wp2_with fail
      refine (rknown_any _ _).mono ?_
      rintro e w1 ⟨rfl, rfl⟩
      go_wp2_with fail
      refine (rhas_any _ _).mono ?_
      rintro e w1 ⟨rfl, rfl⟩
      go_wp2
      rw [HD.out]
      refine bodyPost_ret (v := ret4 ((q : Int), 0, 1, 0)) (by simp [results, Try.results31, go_sem, ret4, insv]) rfl ⟨rfl, below_new _ _ _⟩
    · obtain ⟨A', hA', hs'⟩ : ∃ A', (if c = 1 then A' = some ⟨blk, off, none⟩ else A' = some ⟨blk, off + 1, none⟩) ∧ Sl w w.heap.size A' (bys t) := by
        have hs' := HS.out
        by_cases c1 : c = 1
        · rw [if_pos c1] at hs'
          exact ⟨_, by rw [if_pos c1], hs'⟩
        · rw [if_neg c1] at hs'
          exact ⟨_, by rw [if_neg c1]; rfl, hs'⟩
      have HA := hid hA'
      have HU := hid (fun (w' : World) (h : Below w.heap.size w w') => ruint_any A' m (c - 1) _ t w' HN.out (hs'.go h) (by omega))
      have HDS := hid (decU_size t)
      obtain ⟨x, hx⟩ : ∃ x, (decU t).1 = x := ⟨_, rfl⟩
      obtain ⟨k, hk'⟩ : ∃ k, (decU t).2.1 = k := ⟨_, rfl⟩
      obtain ⟨er, her⟩ : ∃ er, (decU t).2.2 = er := ⟨_, rfl⟩
      have HD := hid (show decI (b :: t) = if er = 0 then ((q : Int), x, 1 + k, 0) else (0, 0, 0, er) by
        by_cases h0 : er = 0
        · rw [if_pos h0, decI_3 HQ.out hk hh (by rw [her, h0]), hx, hk']
        · rw [if_neg h0, decI_4 HQ.out hk hh (by rw [her]; exact h0), her])
      rw [hx, hk', her] at HU
      rw [hk', HN.out] at HDS
      have hkb := HDS.out
      clear hx hk' her hA' hs' HS HQ HC
      have bel := hid (below_new _ _ _ : Below w.heap.size w (w.alloc (.cells #[.int .i64 0, .int .u64 0] 24)))
      by_cases c1 : c = 1
      all_goals
        have hA' := HA.out
        simp only [c1, ↓reduceIte] at hA'
        by_cases h0 : er = 0
      all_goals
        have HD' := HD.out
        simp only [h0, ↓reduceIte] at HD'
        have HD2 := hid HD'
        clear HD'
      · subst c1 hA' h0
        obtain rfl : m = 0 := by omega
        go_enter Try.func31, Try.ntmps31
        go_wp2_with fail
        refine (rknown_any _ _).mono ?_
        rintro e w1 ⟨rfl, rfl⟩
        go_wp2_with fail
        refine (rhas_any _ _).mono ?_
        rintro e w1 ⟨rfl, rfl⟩
        go_wp2_with fail
        refine (HU.out _ bel.out).mono ?_
        rintro e w1 ⟨rfl, rfl⟩
        go_wp2
        rw [HD2.out]
        refine bodyPost_ret (v := ret4 ((q : Int), x, 1 + k, 0)) (by simp [results, Try.results31, go_sem, ret4, insv]) rfl ⟨rfl, below_new _ _ _⟩
      · subst c1 hA'
        obtain rfl : m = 0 := by omega
        go_enter Try.func31, Try.ntmps31
        go_wp2_with fail
        refine (rknown_any _ _).mono ?_
        rintro e w1 ⟨rfl, rfl⟩
        go_wp2_with fail
        refine (rhas_any _ _).mono ?_
        rintro e w1 ⟨rfl, rfl⟩
        go_wp2_with fail
        refine (HU.out _ bel.out).mono ?_
        rintro e w1 ⟨rfl, rfl⟩
        go_wp2
        rw [HD2.out]
        refine bodyPost_ret (v := ret4 (0, 0, 0, er)) (by simp [results, Try.results31, go_sem, ret4, insv]) rfl ⟨rfl, below_new _ _ _⟩
      · subst hA' h0
        go_enter Try.func31, Try.ntmps31
        go_wp2_with fail
        refine (rknown_any _ _).mono ?_
        rintro e w1 ⟨rfl, rfl⟩
        go_wp2_with fail
        refine (rhas_any _ _).mono ?_
        rintro e w1 ⟨rfl, rfl⟩
        go_wp2_with fail
        refine (HU.out _ bel.out).mono ?_
        rintro e w1 ⟨rfl, rfl⟩
        go_wp2
        rw [HD2.out]
        refine bodyPost_ret (v := ret4 ((q : Int), x, 1 + k, 0)) (by simp [results, Try.results31, go_sem, ret4, insv]) rfl ⟨rfl, below_new _ _ _⟩
      · subst hA'
        go_enter Try.func31, Try.ntmps31
        go_wp2_with fail
        refine (rknown_any _ _).mono ?_
        rintro e w1 ⟨rfl, rfl⟩
        go_wp2_with fail
        refine (rhas_any _ _).mono ?_
        rintro e w1 ⟨rfl, rfl⟩
        go_wp2_with fail
        refine (HU.out _ bel.out).mono ?_
        rintro e w1 ⟨rfl, rfl⟩
        go_wp2
        rw [HD2.out]
        refine bodyPost_ret (v := ret4 (0, 0, 0, er)) (by simp [results, Try.results31, go_sem, ret4, insv]) rfl ⟨rfl, below_new _ _ _⟩

end Go.Proofs.Ytgmepgbdbkamlaa
