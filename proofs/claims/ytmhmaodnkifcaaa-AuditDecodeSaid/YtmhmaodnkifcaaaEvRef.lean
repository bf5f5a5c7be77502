/-
  The reference's DecodeEvent: the same as event.Decode.
-/
import Derived.Test.YtmhmaodnkifcaaaEvDec
import Derived.Test.YtmhmaodnkifcaaaWireR
namespace Go.Proofs.Ytmhmaodnkifcaaa
open Go.RowKit
set_option linter.unusedSimpArgs false
/-- What a round of the reference's loop keeps. -/
def Rr (w : World) (l : List UInt8) (k at_ : Nat) (wr : World) : Prop :=
  ∃ (ns : List Nat), at_ ≤ l.length ∧ ns.length = k ∧ decR 5 [] l = decR (5 - k) ns (l.drop at_) ∧
    wr.ownsRow w.heap.size 108 1 (.slice (some ⟨w.heap.size + 1, 0, none⟩) 5 5) 5 (arr5 ns) ∧
    wr.ownsRow w.heap.size 36 1 (.slice (some ⟨w.heap.size, 0, none⟩) 5 5) 5 [.int .i64 0, .int .i64 0, .int .u64 0, .int .u64 0, .int .i64 0] ∧ Below w.heap.size w wr

theorem rr_next {w wr : World} {l : List UInt8} {ns : List Nat} {k x at_ : Nat} (hk : k < 5) (hns : ns.length = k) (hle : at_ ≤ l.length)
    (hd : decR 5 [] l = decR (5 - (k + 1)) (ns ++ [x]) (l.drop at_))
    (ha : wr.ownsRow w.heap.size 108 1 (.slice (some ⟨w.heap.size + 1, 0, none⟩) 5 5) 5 (arr5 ns))
    (hr : wr.ownsRow w.heap.size 36 1 (.slice (some ⟨w.heap.size, 0, none⟩) 5 5) 5 [.int .i64 0, .int .i64 0, .int .u64 0, .int .u64 0, .int .i64 0]) (hb : Below w.heap.size w wr) :
    Rr w l (k + 1) at_ (wr.setCell ⟨w.heap.size + 1, k, none⟩ (.int .u64 (x : Int))) := by
  have h1 := (ha.stored k (.int .u64 (x : Int))).1
  subst hns
  rw [arr5_set hk] at h1
  have h2 : Below w.heap.size wr (wr.setCell ⟨w.heap.size + 1, ns.length, none⟩ (.int .u64 (x : Int))) := (Below.refl _ _).setCell (by simp) _
  exact ⟨ns ++ [x], hle, by simp, hd, h1, ownsRow_setCell_other hr (fun e => by simp [Value.ownBlock] at e) _, hb.trans h2⟩

set_option maxHeartbeats 2000000 in
theorem redec_any (A : Option Addr) (n c : Nat) (l : List UInt8) (w : World) (hn : l.length = n) (hc : n ≤ c) (hs : Sl w w.heap.size A (bys l)) (hm : n ≤ 100000) :
    Calls Try.prog 47 #[.slice A n c] w fun e w' => e = .returned (retE (decE l)) ∧ Below w.heap.size w w' := by
  have R0 : Rr w l 0 0 ((w.alloc (.cells #[.int .i64 0, .int .i64 0, .int .u64 0, .int .u64 0, .int .i64 0] 36)).alloc (.cells #[.int .u64 0, .int .u64 0, .int .u64 0, .int .u64 0, .int .u64 0] 108)) := by
    have hb := below_go (below_new w #[.int .i64 0, .int .i64 0, .int .u64 0, .int .u64 0, .int .i64 0] 36) (below_new (w.alloc (.cells #[.int .i64 0, .int .i64 0, .int .u64 0, .int .u64 0, .int .i64 0] 36)) #[.int .u64 0, .int .u64 0, .int .u64 0, .int .u64 0, .int .u64 0] 108)
    refine ⟨[], by omega, rfl, rfl, ?_, ?_, hb⟩
    · have := own_cells (w.alloc (.cells #[.int .i64 0, .int .i64 0, .int .u64 0, .int .u64 0, .int .i64 0] 36)) 108 w.heap.size (arr5 []) 5 rfl (by simp) (by omega)
      rw [World.size_alloc] at this
      exact this
    · exact own_below (own_cells w 36 w.heap.size [.int .i64 0, .int .i64 0, .int .u64 0, .int .u64 0, .int .i64 0] 5 rfl (Nat.le_refl _) (by omega)) (below_new _ _ _)
  have HR0 := hid R0
  have HN := hid hn
  have HS := hid hs
  have HC := hid hc
  clear R0 hn hs
  go_enter Try.func47, Try.ntmps47
  go_wp2_with fail
  go_loopw [5, 6] (fun v i wr => ∃ k at_ : Nat, k ≤ 5 ∧ v = .int .i64 at_ ∧ i = .int .i64 k ∧ Rr w l k at_ wr) (fun _ i _ => 5 - (intOf i).toNat)
  case atStart => exact ⟨0, 0, by omega, rfl, rfl, HR0.out⟩
  case round =>
    obtain ⟨k, at_, hk, rfl, rfl, ns, hat, hns, hd, ha, hr, hb⟩ := hrel
    rw [HN.out] at hat
    have HAT := hid hat
    have HNS := hid hns
    have HD := hid hd
    have HA := hid ha
    have HR := hid hr
    have HB := hid hb
    clear hns hd ha hr hb
    obtain ⟨rest, hrest⟩ : ∃ rest, l.drop at_ = rest := ⟨_, rfl⟩
    have HCUT := hid (show Sl wr w.heap.size (if c = at_ then A else A.map (·.add (at_ * 1))) (bys rest) by
      have := (HS.out.below HB.out).cut (k := at_) (c := c) (by simp [HN.out]; exact hc) 1 rfl
      rw [← bys_drop, hrest] at this
      exact this)
    have HREST := hid hrest
    have hlen : rest.length = n - at_ := by rw [← hrest, List.length_drop, HN.out]
    have HLEN := hid hlen
    obtain ⟨x, hx⟩ : ∃ x, (decU rest).1 = x := ⟨_, rfl⟩
    obtain ⟨s, hsz⟩ : ∃ s, (decU rest).2.1 = s := ⟨_, rfl⟩
    obtain ⟨er, her⟩ : ∃ er, (decU rest).2.2 = er := ⟨_, rfl⟩
    have HSZ := hid (decU_size rest)
    rw [hsz, hlen] at HSZ
    have hsn := HSZ.out
    by_cases hlt : k < 5
    · have HU := hid (fun (A' : Option Addr) (n' c' : Nat) (hn' : rest.length = n') (hs' : Sl wr w.heap.size A' (bys rest)) (hm' : n' ≤ 70368744177664) => ruint_any A' n' c' _ rest wr hn' hs' hm')
      by_cases h0 : er = 0
      · have HD2 := hid (show decR 5 [] l = decR (5 - (k + 1)) (ns ++ [x]) (l.drop (at_ + s)) by
          rw [HD.out, hrest, show 5 - k = (5 - (k + 1)) + 1 by omega, decR_ok (by rw [her, h0]), hx, hsz, ← hrest, List.drop_drop])
        rw [hx, hsz, her, h0] at HU
        have hcell : wr.cell? ⟨w.heap.size + 1, k, none⟩ = some (.int .u64 0) := by
          rw [HA.out.cellAt k hlt]
          exact arr5_get (by rw [HNS.out]) (by rw [HNS.out]; exact hlt)
        have hfr := HA.out.frozenAt k
        have HCUT' := HCUT.out
        clear hx hsz her hrest hlen HSZ
        by_cases hcs : c = at_
        · rw [if_pos hcs] at HCUT'
          have HCU := hid HCUT'
          clear HCUT'
          subst hcs
          go_wp2_with fail
          refine (HU.out _ _ _ ?_ ?_ ?_).mono ?_
          · have := HLEN.out
            omega
          · exact HCU.out
          · omega
          rintro e w' ⟨rfl, rfl⟩
          go_wp2
          go_roundw
          case rel =>
            refine ⟨k + 1, c + s, by omega, by go_num, by go_num, rr_next hlt HNS.out (by rw [HN.out]; omega) HD2.out HA.out HR.out HB.out⟩
          case measure => simp [intOf]; omega
        · rw [if_neg hcs] at HCUT'
          rw [Nat.mul_one] at HCUT'
          have HCU := hid HCUT'
          clear HCUT'
          go_wp2_with fail
          refine (HU.out _ _ _ ?_ ?_ ?_).mono ?_
          · have := HLEN.out
            omega
          · exact HCU.out
          · omega
          rintro e w' ⟨rfl, rfl⟩
          go_wp2
          go_roundw
          case rel =>
            refine ⟨k + 1, at_ + s, by omega, by go_num, by go_num, rr_next hlt HNS.out (by rw [HN.out]; omega) HD2.out HA.out HR.out HB.out⟩
          case measure => simp [intOf]; omega
      · have HD2 := hid (show decE l = (evZero, er) from decE_err (by rw [HD.out, hrest, show 5 - k = (5 - (k + 1)) + 1 by omega, decR_no (by rw [her]; exact h0), her]))
        rw [hx, hsz, her] at HU
        have he1 : ((er : Int) == 0) = false := by simp; omega
        have HCUT' := HCUT.out
        clear hx hsz her hrest hlen HSZ
        obtain ⟨c0, c1', c2, c3, c4, f0, f1, f2, f3, f4⟩ := five_of HR.out
        by_cases hcs : c = at_
        · rw [if_pos hcs] at HCUT'
          have HCU := hid HCUT'
          clear HCUT'
          subst hcs
          go_wp2_with fail
          refine (HU.out _ _ _ ?_ ?_ ?_).mono ?_
          · have := HLEN.out
            omega
          · exact HCU.out
          · omega
          rintro e w' ⟨rfl, rfl⟩
          go_wp2
          rw [HD2.out]
          refine bodyPost_ret (v := retE (evZero, er)) (by simp [results, Try.results47, go_sem, retE, evv, evZero, c0, c1', c2, c3, c4]) rfl ⟨rfl, ?_⟩
          repeat (refine Below.setCell ?_ (by simp) _)
          exact HB.out
        · rw [if_neg hcs] at HCUT'
          rw [Nat.mul_one] at HCUT'
          have HCU := hid HCUT'
          clear HCUT'
          go_wp2_with fail
          refine (HU.out _ _ _ ?_ ?_ ?_).mono ?_
          · have := HLEN.out
            omega
          · exact HCU.out
          · omega
          rintro e w' ⟨rfl, rfl⟩
          go_wp2
          rw [HD2.out]
          refine bodyPost_ret (v := retE (evZero, er)) (by simp [results, Try.results47, go_sem, retE, evv, evZero, c0, c1', c2, c3, c4]) rfl ⟨rfl, ?_⟩
          repeat (refine Below.setCell ?_ (by simp) _)
          exact HB.out
    · obtain rfl : k = 5 := by omega
      obtain ⟨p, o, h, a, y, rfl⟩ : ∃ p o h a y, ns = [p, o, h, a, y] := by
        have := HNS.out
        match ns, this with
        | [p, o, h, a, y], _ => exact ⟨p, o, h, a, y, rfl⟩
      have HD3 := hid (show decR 5 [] l = ([p, o, h, a, y], rest, 0) by rw [HD.out, hrest]; rfl)
      clear hx hsz her HSZ hsn hrest
      by_cases hn0 : at_ < n
      · have HD2 := hid (show decE l = (evZero, 3) from decE_rest HD3.out (by intro h; rw [h] at hlen; simp at hlen; omega))
        obtain ⟨c0, c1', c2, c3, c4, f0, f1, f2, f3, f4⟩ := five_of HR.out
        clear hlen
        go_wp2
        rw [HD2.out]
        refine bodyPost_ret (v := retE (evZero, 3)) (by simp [results, Try.results47, go_sem, retE, evv, evZero, c0, c1', c2, c3, c4]) rfl ⟨rfl, ?_⟩
        repeat (refine Below.setCell ?_ (by simp) _)
        exact HB.out
      · have hr0 : rest = [] := List.eq_nil_of_length_eq_zero (by omega)
        rw [hr0] at HD3
        obtain ⟨c0, c1', c2, c3, c4, f0, f1, f2, f3, f4⟩ := five_of (show wr.ownsRow w.heap.size 108 1 (.slice (some ⟨w.heap.size + 1, 0, none⟩) 5 5) 5 [.int .u64 p, .int .u64 o, .int .u64 h, .int .u64 a, .int .u64 y] from HA.out)
        clear hlen hr0
        by_cases hp : 64 < p
        · have HD2 := hid (decE_no HD3.out (by unfold EvOK; omega))
          obtain ⟨r0, r1, r2, r3, r4, f0, f1, f2, f3, f4⟩ := five_of HR.out
          go_wp2
          rw [HD2.out]
          refine bodyPost_ret (v := retE (evZero, 1)) (by simp [results, Try.results47, go_sem, retE, evv, evZero, r0, r1, r2, r3, r4]) rfl ⟨rfl, ?_⟩
          repeat (refine Below.setCell ?_ (by simp) _)
          exact HB.out
        · by_cases ho : 33 < o
          · have HD2 := hid (decE_no HD3.out (by unfold EvOK; omega))
            obtain ⟨r0, r1, r2, r3, r4, f0, f1, f2, f3, f4⟩ := five_of HR.out
            go_wp2
            rw [HD2.out]
            refine bodyPost_ret (v := retE (evZero, 1)) (by simp [results, Try.results47, go_sem, retE, evv, evZero, r0, r1, r2, r3, r4]) rfl ⟨rfl, ?_⟩
            repeat (refine Below.setCell ?_ (by simp) _)
            exact HB.out
          · by_cases hy : 29 < y
            · have HD2 := hid (decE_no HD3.out (by unfold EvOK; omega))
              obtain ⟨r0, r1, r2, r3, r4, f0, f1, f2, f3, f4⟩ := five_of HR.out
              go_wp2
              rw [HD2.out]
              refine bodyPost_ret (v := retE (evZero, 1)) (by simp [results, Try.results47, go_sem, retE, evv, evZero, r0, r1, r2, r3, r4]) rfl ⟨rfl, ?_⟩
              repeat (refine Below.setCell ?_ (by simp) _)
              exact HB.out
            · have hw1 : wrap64 (p : Int) = p := by unfold wrap64; omega
              have hw2 : wrap64 (o : Int) = o := by unfold wrap64; omega
              have hw3 : wrap64 (y : Int) = y := by unfold wrap64; omega
              go_wp2_with fail
              clear c0 c1' c2 c3 c4 f0 f1 f2 f3 f4
              by_cases ok : EvOK p o y
              · refine (rcheck_yes p o y h a _ ok).mono ?_
                rintro e w1 ⟨rfl, hb1⟩
                have HDE := hid (decE_yes HD3.out ok)
                have HB9 := hid (show Below wr.heap.size wr w1 from below_go (below_new wr _ _) hb1)
                have n0 : w1.cell? ⟨wr.heap.size, 0, none⟩ = some (.int .i64 (p : Int)) := by rw [hb1.cell (p := ⟨wr.heap.size, 0, none⟩) (by simp)]; simp [go_sem]
                have n1 : w1.cell? ⟨wr.heap.size, 1, none⟩ = some (.int .i64 (o : Int)) := by rw [hb1.cell (p := ⟨wr.heap.size, 1, none⟩) (by simp)]; simp [go_sem]
                have n2 : w1.cell? ⟨wr.heap.size, 2, none⟩ = some (.int .u64 (h : Int)) := by rw [hb1.cell (p := ⟨wr.heap.size, 2, none⟩) (by simp)]; simp [go_sem]
                have n3 : w1.cell? ⟨wr.heap.size, 3, none⟩ = some (.int .u64 (a : Int)) := by rw [hb1.cell (p := ⟨wr.heap.size, 3, none⟩) (by simp)]; simp [go_sem]
                have n4 : w1.cell? ⟨wr.heap.size, 4, none⟩ = some (.int .i64 (y : Int)) := by rw [hb1.cell (p := ⟨wr.heap.size, 4, none⟩) (by simp)]; simp [go_sem]
                obtain ⟨c0, c1', c2, c3, c4, f0, f1, f2, f3, f4⟩ := five_of (own_below HR.out HB9.out)
                clear hb1 ok
                go_wp2
                rw [HDE.out]
                refine bodyPost_ret (v := retE ((p, o, h, a, y), 0)) (by simp [results, Try.results47, go_sem, retE, evv, evZero, n0, n1, n2, n3, n4, c0, c1', c2, c3, c4]) rfl ⟨rfl, ?_⟩
                repeat (refine Below.setCell ?_ (by simp) _)
                exact HB.out.trans (HB9.out.mono HB.out.size)
              · refine (rcheck_no p o y h a _ ok).mono ?_
                rintro e w1 ⟨rfl, hb1⟩
                have HDE := hid (decE_no HD3.out ok)
                have HB9 := hid (show Below wr.heap.size wr w1 from below_go (below_new wr _ _) hb1)
                obtain ⟨c0, c1', c2, c3, c4, f0, f1, f2, f3, f4⟩ := five_of (own_below HR.out HB9.out)
                clear hb1 ok
                go_wp2
                rw [HDE.out]
                refine bodyPost_ret (v := retE (evZero, 1)) (by simp [results, Try.results47, go_sem, retE, evv, evZero, c0, c1', c2, c3, c4]) rfl ⟨rfl, ?_⟩
                repeat (refine Below.setCell ?_ (by simp) _)
                exact HB.out.trans (HB9.out.mono HB.out.size)
end Go.Proofs.Ytmhmaodnkifcaaa
