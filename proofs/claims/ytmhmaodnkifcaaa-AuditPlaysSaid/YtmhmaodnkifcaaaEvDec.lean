/-
  event.Decode.
-/
import Derived.Test.YtmhmaodnkifcaaaEvSpec
import Derived.Test.YtmhmaodnkifcaaaWireG
import Derived.OneCell
import Derived.Deep.WholeRow
import Derived.Deep.RegionHeld3
namespace Go.Proofs.Ytmhmaodnkifcaaa
open Go.RowKit
set_option linter.unusedSimpArgs false

def retE (r : (Nat × Nat × Nat × Nat × Nat) × Nat) : Value := .tuple #[evv r.1.1 r.1.2.1 r.1.2.2.1 r.1.2.2.2.1 r.1.2.2.2.2, .int .i64 r.2]
/-- Five cells of a block, each of which can be read and written. -/
structure Five (w : World) (g : Nat) (v0 v1 v2 v3 v4 : Value) : Prop where
  c0 : w.cell? ⟨g, 0, none⟩ = some v0
  c1 : w.cell? ⟨g, 1, none⟩ = some v1
  c2 : w.cell? ⟨g, 2, none⟩ = some v2
  c3 : w.cell? ⟨g, 3, none⟩ = some v3
  c4 : w.cell? ⟨g, 4, none⟩ = some v4
  f0 : w.frozen? ⟨g, 0, none⟩ = false
  f1 : w.frozen? ⟨g, 1, none⟩ = false
  f2 : w.frozen? ⟨g, 2, none⟩ = false
  f3 : w.frozen? ⟨g, 3, none⟩ = false
  f4 : w.frozen? ⟨g, 4, none⟩ = false
theorem five_of {w : World} {base e g : Nat} {v0 v1 v2 v3 v4 : Value} (h : w.ownsRow base e 1 (.slice (some ⟨g, 0, none⟩) 5 5) 5 [v0, v1, v2, v3, v4]) : Five w g v0 v1 v2 v3 v4 :=
  ⟨by rw [h.cellAt 0 (by omega)]; rfl, by rw [h.cellAt 1 (by omega)]; rfl, by rw [h.cellAt 2 (by omega)]; rfl, by rw [h.cellAt 3 (by omega)]; rfl, by rw [h.cellAt 4 (by omega)]; rfl,
   h.frozenAt 0, h.frozenAt 1, h.frozenAt 2, h.frozenAt 3, h.frozenAt 4⟩
def C5 (W : World) (g p o h a y : Nat) : Prop := W.cell? ⟨g, 0, none⟩ = some (.int .u64 p) ∧ W.cell? ⟨g, 1, none⟩ = some (.int .u64 o) ∧ W.cell? ⟨g, 2, none⟩ = some (.int .u64 h) ∧ W.cell? ⟨g, 3, none⟩ = some (.int .u64 a) ∧ W.cell? ⟨g, 4, none⟩ = some (.int .u64 y)
theorem cells_new {W : World} {g p o h a y : Nat} (hc : C5 W g p o h a y) (hg : g < W.heap.size) (cs : Array Value) (t : TypeId) : C5 (W.alloc (.cells cs t)) g p o h a y := by
  obtain ⟨h0, h1, h2, h3, h4⟩ := hc
  have hb := below_new W cs t
  exact ⟨(hb.cell (p := ⟨g, 0, none⟩) hg).trans h0, (hb.cell (p := ⟨g, 1, none⟩) hg).trans h1, (hb.cell (p := ⟨g, 2, none⟩) hg).trans h2, (hb.cell (p := ⟨g, 3, none⟩) hg).trans h3, (hb.cell (p := ⟨g, 4, none⟩) hg).trans h4⟩
theorem own_cells (w : World) (e : TypeId) (base : Nat) (cs : List Value) (m : Nat) (hm : cs.length = m) (hb : base ≤ w.heap.size) (hl : m ≤ 1000) : (w.alloc (.cells cs.toArray e)).ownsRow base e 1 (.slice (some ⟨w.heap.size, 0, none⟩) m m) m cs :=
  ⟨by omega, .inr ⟨w.heap.size, m, cs.toArray, rfl, hb, heap_alloc_last w _, Nat.le_refl _, by unfold maxLen; omega, by simp [hm], by rw [Nat.mul_one, ← hm]; simp⟩⟩
/-- The array of the numbers read so far. -/
def arr5 (ns : List Nat) : List Value := (ns ++ List.replicate (5 - ns.length) 0).map fun n : Nat => Value.int .u64 (n : Int)
theorem arr5_len {ns : List Nat} (h : ns.length ≤ 5) : (arr5 ns).length = 5 := by simp [arr5]; omega
theorem arr5_set {ns : List Nat} (h : ns.length < 5) (x : Nat) : (arr5 ns).set ns.length (.int .u64 (x : Int)) = arr5 (ns ++ [x]) := by
  unfold arr5
  obtain ⟨m, hm⟩ : ∃ m, 5 - ns.length = m + 1 := ⟨4 - ns.length, by omega⟩
  rw [hm, show 5 - (ns ++ [x]).length = m by simp; omega, List.replicate_succ]
  simp

theorem arr5_get {ns : List Nat} {k : Nat} (h : k = ns.length) (h5 : ns.length < 5) : (arr5 ns)[k]? = some (.int .u64 0) := by
  subst h
  unfold arr5
  rw [List.getElem?_map, List.getElem?_append_right (Nat.le_refl _), Nat.sub_self, List.getElem?_replicate, if_pos (by omega)]
  rfl
/-- What a round of the loop keeps. -/
def Rd (w : World) (l : List UInt8) (k : Nat) (v : Value) (wr : World) : Prop :=
  ∃ (ns : List Nat) (rest : List UInt8) (A : Option Addr) (n c : Nat), v = .slice A n c ∧ rest.length = n ∧ n ≤ c ∧ n ≤ l.length ∧ Sl wr w.heap.size A (bys rest) ∧ ns.length = k ∧ decR 5 [] l = decR (5 - k) ns rest ∧
    wr.ownsRow w.heap.size 108 1 (.slice (some ⟨w.heap.size + 1, 0, none⟩) 5 5) 5 (arr5 ns) ∧
    wr.ownsRow w.heap.size 36 1 (.slice (some ⟨w.heap.size, 0, none⟩) 5 5) 5 [.int .i64 0, .int .i64 0, .int .u64 0, .int .u64 0, .int .i64 0] ∧ Below w.heap.size w wr

theorem rd_next {w wr : World} {l rest' : List UInt8} {ns : List Nat} {k x : Nat} {A' : Option Addr} {n' c' : Nat} (hk : k < 5) (hns : ns.length = k) (hlen : rest'.length = n') (hc : n' ≤ c') (hle : n' ≤ l.length)
    (hsl : Sl wr w.heap.size A' (bys rest')) (hd : decR 5 [] l = decR (5 - (k + 1)) (ns ++ [x]) rest')
    (ha : wr.ownsRow w.heap.size 108 1 (.slice (some ⟨w.heap.size + 1, 0, none⟩) 5 5) 5 (arr5 ns))
    (hr : wr.ownsRow w.heap.size 36 1 (.slice (some ⟨w.heap.size, 0, none⟩) 5 5) 5 [.int .i64 0, .int .i64 0, .int .u64 0, .int .u64 0, .int .i64 0]) (hb : Below w.heap.size w wr) :
    Rd w l (k + 1) (.slice A' n' c') (wr.setCell ⟨w.heap.size + 1, k, none⟩ (.int .u64 (x : Int))).drew := by
  have h1 := (ha.stored k (.int .u64 (x : Int))).1
  subst hns
  rw [arr5_set hk] at h1
  have h2 : Below w.heap.size wr (wr.setCell ⟨w.heap.size + 1, ns.length, none⟩ (.int .u64 (x : Int))) := (Below.refl _ _).setCell (by simp) _
  exact ⟨ns ++ [x], rest', A', n', c', rfl, hlen, hc, hle, hsl.below h2.drew, by simp, hd, h1, ownsRow_setCell_other hr (fun e => by simp [Value.ownBlock] at e) _, (hb.trans h2).drew⟩

set_option maxHeartbeats 2000000 in
theorem edec_any (A : Option Addr) (n c : Nat) (l : List UInt8) (w : World) (hn : l.length = n) (hc : n ≤ c) (hs : Sl w w.heap.size A (bys l)) (hm : n ≤ 100000) :
    Calls Try.prog 44 #[.slice A n c] w fun e w' => e = .returned (retE (decE l)) ∧ Below w.heap.size w w' := by
  have R0 : Rd w l 0 (.slice A n c) ((w.alloc (.cells #[.int .i64 0, .int .i64 0, .int .u64 0, .int .u64 0, .int .i64 0] 36)).alloc (.cells #[.int .u64 0, .int .u64 0, .int .u64 0, .int .u64 0, .int .u64 0] 108)) := by
    have hb := below_go (below_new w #[.int .i64 0, .int .i64 0, .int .u64 0, .int .u64 0, .int .i64 0] 36) (below_new (w.alloc (.cells #[.int .i64 0, .int .i64 0, .int .u64 0, .int .u64 0, .int .i64 0] 36)) #[.int .u64 0, .int .u64 0, .int .u64 0, .int .u64 0, .int .u64 0] 108)
    refine ⟨[], l, A, n, c, rfl, hn, hc, by omega, hs.below hb, rfl, rfl, ?_, ?_, hb⟩
    · have := own_cells (w.alloc (.cells #[.int .i64 0, .int .i64 0, .int .u64 0, .int .u64 0, .int .i64 0] 36)) 108 w.heap.size (arr5 []) 5 rfl (by simp) (by omega)
      rw [World.size_alloc] at this
      exact this
    · exact own_below (own_cells w 36 w.heap.size [.int .i64 0, .int .i64 0, .int .u64 0, .int .u64 0, .int .i64 0] 5 rfl (Nat.le_refl _) (by omega)) (below_new _ _ _)
  have HR0 := hid R0
  have HN := hid hn
  clear R0 hn hc hs
  go_enter Try.func44, Try.ntmps44
  go_wp2_with fail
  go_loopw [0, 11] (fun v i wr => ∃ k : Nat, k ≤ 5 ∧ i = .int .i64 k ∧ Rd w l k v wr) (fun _ i _ => 5 - (intOf i).toNat)
  case atStart => exact ⟨0, by omega, rfl, HR0.out⟩
  case round =>
    obtain ⟨k, hk, rfl, ns, rest, A1, n1, c1, rfl, hn1, hc1, hnl, hs1, hns, hd, ha, hr, hb⟩ := hrel
    have HN1 := hid hn1
    have HC1 := hid hc1
    have HS1 := hid hs1
    have HNS := hid hns
    have HD := hid hd
    have HA := hid ha
    have HR := hid hr
    have HB := hid hb
    have hn1m : n1 ≤ 100000 := by rw [HN.out] at hnl; omega
    have HNL1 := hid hnl
    clear hn1 hc1 hs1 hns hd ha hr hb hnl
    have HU := hid (uint_any A1 n1 c1 _ rest wr HN1.out HC1.out HS1.out (by omega))
    obtain ⟨x, hx⟩ : ∃ x, (decU rest).1 = x := ⟨_, rfl⟩
    obtain ⟨s, hsz⟩ : ∃ s, (decU rest).2.1 = s := ⟨_, rfl⟩
    obtain ⟨er, her⟩ : ∃ er, (decU rest).2.2 = er := ⟨_, rfl⟩
    have HSZ := hid (decU_size rest)
    rw [hsz, HN1.out] at HSZ
    have hsn := HSZ.out
    by_cases hlt : k < 5
    · by_cases h0 : er = 0
      · have HD2 := hid (show decR 5 [] l = decR (5 - (k + 1)) (ns ++ [x]) (rest.drop s) by
          rw [HD.out, show 5 - k = (5 - (k + 1)) + 1 by omega, decR_ok (by rw [her, h0]), hx, hsz])
        rw [hx, hsz, her, h0] at HU
        have hcut := HS1.out.cut (k := s) (c := c1) (by simp [HN1.out]; exact HC1.out) 1 rfl
        rw [← bys_drop, Nat.mul_one] at hcut
        have HCUT := hid hcut
        have hcut' := hcut
        have hcell : wr.cell? ⟨w.heap.size + 1, k, none⟩ = some (.int .u64 0) := by
          rw [HA.out.cellAt k hlt]
          exact arr5_get (by rw [HNS.out]) (by rw [HNS.out]; exact hlt)
        have hfr := HA.out.frozenAt k
        have HA2 := hid (HA.out.stored k (.int .u64 (x : Int))).1
        clear hx hsz her h0 hcut
        by_cases hcs : c1 = s
        · clear hcut'
          subst hcs
          go_wp2_with fail
          refine HU.out.mono ?_
          rintro e w' ⟨rfl, rfl⟩
          go_wp2_with fail
          refine wp_region_noPanic ?_
          refine wp_region_held_drew (S := (fun _ => True)) (by kernel_rfl) trivial (fun hH0 => ?_)
          refine wpAnyH_take (i := 0) (v := ?_) rfl (by kernel_rfl) (by kernel_rfl) (by kernel_rfl) (fun _ _ _ h => h) (Or.inl ⟨by rfl, ?_⟩) hH0 ?_
          rotate_left
          · (intro w hSw; (try dsimp only at hSw); go_simp; try (with_reducible rfl))
          try simp only [Act.put, List.getElem_toArray, List.getElem_cons_zero, List.setIfInBounds_toArray, List.set_cons_zero, List.set_cons_succ]
          refine wpAnyH_take (i := 1) (v := ?_) rfl (by kernel_rfl) (by kernel_rfl) (by kernel_rfl) (fun _ _ _ h => h) (Or.inl ⟨by rfl, ?_⟩) hH0 ?_
          rotate_left
          · (intro w hSw; (try dsimp only at hSw); go_simp; try (with_reducible rfl))
          try simp only [Act.put, List.getElem_toArray, List.getElem_cons_zero, List.getElem_cons_succ, List.setIfInBounds_toArray, List.set_cons_zero, List.set_cons_succ]
          refine wpAnyH_take (i := 2) (v := ?_) rfl (by kernel_rfl) (by kernel_rfl) (by kernel_rfl) (fun _ _ _ h => h) (Or.inl ⟨by rfl, ?_⟩) hH0 ?_
          rotate_left
          · (intro w hSw; (try dsimp only at hSw); go_simp; try (with_reducible rfl))
          try simp only [Act.put, List.getElem_toArray, List.getElem_cons_zero, List.getElem_cons_succ, List.setIfInBounds_toArray, List.set_cons_zero, List.set_cons_succ]
          refine wpAnyH_take (i := 3) (v := ?_) rfl (by kernel_rfl) (by kernel_rfl) (by kernel_rfl) (fun _ _ _ h => h) (Or.inl ⟨by rfl, ?_⟩) hH0 ?_
          rotate_left
          · (intro w hSw; (try dsimp only at hSw); go_simp; try (with_reducible rfl))
          try simp only [Act.put, List.getElem_toArray, List.getElem_cons_zero, List.getElem_cons_succ, List.setIfInBounds_toArray, List.set_cons_zero, List.set_cons_succ]
          refine wpAnyH_take (i := 4) (v := ?_) rfl (by kernel_rfl) (by kernel_rfl) (by kernel_rfl) (fun _ _ _ h => h) (Or.inl ⟨by rfl, ?_⟩) hH0 ?_
          rotate_left
          · (intro w hSw; (try dsimp only at hSw); go_simp; try (with_reducible rfl))
          try simp only [Act.put, List.getElem_toArray, List.getElem_cons_zero, List.getElem_cons_succ, List.setIfInBounds_toArray, List.set_cons_zero, List.set_cons_succ]
          refine wpAnyH_take (i := 5) (v := ?_) rfl (by kernel_rfl) (by kernel_rfl) (by kernel_rfl) (fun _ _ _ h => h) (Or.inl ⟨by rfl, ?_⟩) hH0 ?_
          rotate_left
          · (intro w hSw; (try dsimp only at hSw); go_simp; try (with_reducible rfl))
          try simp only [Act.put, List.getElem_toArray, List.getElem_cons_zero, List.getElem_cons_succ, List.setIfInBounds_toArray, List.set_cons_zero, List.set_cons_succ]
          refine wpAnyH_ready (rs := [6]) (by kernel_rfl) (by simp) ?_
          refine AllReadyH.cons rfl (fun K hK => ?_) AllReadyH.nil
          simp only [List.getElem_toArray, List.getElem_cons_zero, List.getElem_cons_succ]
          go_simp
          refine hK.out _ _ trivial (fun hH1 => ?_)
          clear hK K hH0
          try simp only [Act.put, List.setIfInBounds_toArray, List.set_cons_zero, List.set_cons_succ]
          refine wpAnyH_take (i := 7) (v := ?_) rfl (by kernel_rfl) (by kernel_rfl) (by kernel_rfl) (fun _ _ _ h => h) (Or.inl ⟨by rfl, ?_⟩) hH1 ?_
          rotate_left
          · (intro w hSw; (try dsimp only at hSw); go_simp; try (with_reducible rfl))
          try simp only [Act.put, List.getElem_toArray, List.getElem_cons_zero, List.getElem_cons_succ, List.setIfInBounds_toArray, List.set_cons_zero, List.set_cons_succ]
          refine wpAnyH_done (by kernel_rfl) ?_ _
          refine NoPanic.normal ?_
          go_wp2
          go_roundw
          case rel =>
            have h := HCUT.out
            simp only [↓reduceIte] at h
            refine ⟨k + 1, by omega, by go_num, rd_next hlt HNS.out (by rw [List.length_drop, HN1.out]) (by have := HC1.out; omega) (by have := HNL1.out; omega) h HD2.out HA.out HR.out HB.out⟩
          case measure => simp [intOf]; omega
        · rw [if_neg hcs] at hcut'
          have HCUT' := hid hcut'
          clear hcut'
          go_wp2_with fail
          refine HU.out.mono ?_
          rintro e w' ⟨rfl, rfl⟩
          go_wp2_with fail
          refine wp_region_noPanic ?_
          refine wp_region_held_drew (S := (fun _ => True)) (by kernel_rfl) trivial (fun hH0 => ?_)
          refine wpAnyH_take (i := 0) (v := ?_) rfl (by kernel_rfl) (by kernel_rfl) (by kernel_rfl) (fun _ _ _ h => h) (Or.inl ⟨by rfl, ?_⟩) hH0 ?_
          rotate_left
          · (intro w hSw; (try dsimp only at hSw); go_simp; try (with_reducible rfl))
          try simp only [Act.put, List.getElem_toArray, List.getElem_cons_zero, List.setIfInBounds_toArray, List.set_cons_zero, List.set_cons_succ]
          refine wpAnyH_take (i := 1) (v := ?_) rfl (by kernel_rfl) (by kernel_rfl) (by kernel_rfl) (fun _ _ _ h => h) (Or.inl ⟨by rfl, ?_⟩) hH0 ?_
          rotate_left
          · (intro w hSw; (try dsimp only at hSw); go_simp; try (with_reducible rfl))
          try simp only [Act.put, List.getElem_toArray, List.getElem_cons_zero, List.getElem_cons_succ, List.setIfInBounds_toArray, List.set_cons_zero, List.set_cons_succ]
          refine wpAnyH_take (i := 2) (v := ?_) rfl (by kernel_rfl) (by kernel_rfl) (by kernel_rfl) (fun _ _ _ h => h) (Or.inl ⟨by rfl, ?_⟩) hH0 ?_
          rotate_left
          · (intro w hSw; (try dsimp only at hSw); go_simp; try (with_reducible rfl))
          try simp only [Act.put, List.getElem_toArray, List.getElem_cons_zero, List.getElem_cons_succ, List.setIfInBounds_toArray, List.set_cons_zero, List.set_cons_succ]
          refine wpAnyH_take (i := 3) (v := ?_) rfl (by kernel_rfl) (by kernel_rfl) (by kernel_rfl) (fun _ _ _ h => h) (Or.inl ⟨by rfl, ?_⟩) hH0 ?_
          rotate_left
          · (intro w hSw; (try dsimp only at hSw); go_simp; try (with_reducible rfl))
          try simp only [Act.put, List.getElem_toArray, List.getElem_cons_zero, List.getElem_cons_succ, List.setIfInBounds_toArray, List.set_cons_zero, List.set_cons_succ]
          refine wpAnyH_take (i := 4) (v := ?_) rfl (by kernel_rfl) (by kernel_rfl) (by kernel_rfl) (fun _ _ _ h => h) (Or.inl ⟨by rfl, ?_⟩) hH0 ?_
          rotate_left
          · (intro w hSw; (try dsimp only at hSw); go_simp; try (with_reducible rfl))
          try simp only [Act.put, List.getElem_toArray, List.getElem_cons_zero, List.getElem_cons_succ, List.setIfInBounds_toArray, List.set_cons_zero, List.set_cons_succ]
          refine wpAnyH_take (i := 5) (v := ?_) rfl (by kernel_rfl) (by kernel_rfl) (by kernel_rfl) (fun _ _ _ h => h) (Or.inl ⟨by rfl, ?_⟩) hH0 ?_
          rotate_left
          · (intro w hSw; (try dsimp only at hSw); go_simp; try (with_reducible rfl))
          try simp only [Act.put, List.getElem_toArray, List.getElem_cons_zero, List.getElem_cons_succ, List.setIfInBounds_toArray, List.set_cons_zero, List.set_cons_succ]
          refine wpAnyH_ready (rs := [6]) (by kernel_rfl) (by simp) ?_
          refine AllReadyH.cons rfl (fun K hK => ?_) AllReadyH.nil
          simp only [List.getElem_toArray, List.getElem_cons_zero, List.getElem_cons_succ]
          go_simp
          refine hK.out _ _ trivial (fun hH1 => ?_)
          clear hK K hH0
          try simp only [Act.put, List.setIfInBounds_toArray, List.set_cons_zero, List.set_cons_succ]
          refine wpAnyH_take (i := 7) (v := ?_) rfl (by kernel_rfl) (by kernel_rfl) (by kernel_rfl) (fun _ _ _ h => h) (Or.inl ⟨by rfl, ?_⟩) hH1 ?_
          rotate_left
          · (intro w hSw; (try dsimp only at hSw); go_simp; try (with_reducible rfl))
          try simp only [Act.put, List.getElem_toArray, List.getElem_cons_zero, List.getElem_cons_succ, List.setIfInBounds_toArray, List.set_cons_zero, List.set_cons_succ]
          refine wpAnyH_done (by kernel_rfl) ?_ _
          refine NoPanic.normal ?_
          go_wp2
          go_roundw
          case rel =>
            refine ⟨k + 1, by omega, by go_num, rd_next hlt HNS.out (by rw [List.length_drop, HN1.out]) (by have := HC1.out; omega) (by have := HNL1.out; omega) HCUT'.out HD2.out HA.out HR.out HB.out⟩
          case measure => simp [intOf]; omega
      · have HD2 := hid (show decE l = (evZero, er) from decE_err (by rw [HD.out, show 5 - k = (5 - (k + 1)) + 1 by omega, decR_no (by rw [her]; exact h0), her]))
        rw [hx, hsz, her] at HU
        have he1 : ((er : Int) == 0) = false := by simp; omega
        clear hx hsz her
        obtain ⟨c0, c1', c2, c3, c4, f0, f1, f2, f3, f4⟩ := five_of HR.out
        go_wp2_with fail
        refine HU.out.mono ?_
        rintro e w' ⟨rfl, rfl⟩
        go_wp2
        rw [HD2.out]
        refine bodyPost_ret (v := retE (evZero, er)) (by simp [results, Try.results44, go_sem, retE, evv, evZero, c0, c1', c2, c3, c4]) rfl ⟨rfl, ?_⟩
        repeat (refine Below.setCell ?_ (by simp) _)
        exact HB.out
    · obtain rfl : k = 5 := by omega
      obtain ⟨p, o, h, a, y, rfl⟩ : ∃ p o h a y, ns = [p, o, h, a, y] := by
        have := HNS.out
        match ns, this with
        | [p, o, h, a, y], _ => exact ⟨p, o, h, a, y, rfl⟩
      have HD3 := hid (show decR 5 [] l = ([p, o, h, a, y], rest, 0) by rw [HD.out]; rfl)
      clear hx hsz her HU HSZ hsn
      by_cases hn0 : 0 < n1
      · have HD2 := hid (show decE l = (evZero, 3) from decE_rest HD3.out (by intro h; have := HN1.out; rw [h] at this; simp at this; omega))
        obtain ⟨c0, c1', c2, c3, c4, f0, f1, f2, f3, f4⟩ := five_of HR.out
        go_wp2
        rw [HD2.out]
        refine bodyPost_ret (v := retE (evZero, 3)) (by simp [results, Try.results44, go_sem, retE, evv, evZero, c0, c1', c2, c3, c4]) rfl ⟨rfl, ?_⟩
        repeat (refine Below.setCell ?_ (by simp) _)
        exact HB.out
      · obtain rfl : n1 = 0 := by omega
        have hrest : rest = [] := List.eq_nil_of_length_eq_zero HN1.out
        rw [hrest] at HD3
        have hg1 : w.heap.size + 1 < wr.heap.size := by
          have := (HA.out.lt (w.heap.size + 1) rfl).2
          exact this
        obtain ⟨c0, c1', c2, c3, c4, f0, f1, f2, f3, f4⟩ := five_of (show wr.ownsRow w.heap.size 108 1 (.slice (some ⟨w.heap.size + 1, 0, none⟩) 5 5) 5 [.int .u64 p, .int .u64 o, .int .u64 h, .int .u64 a, .int .u64 y] from HA.out)
        clear HNS HA HS1 hrest
        go_wp2_with fail
        refine wp_region_noPanic ?_
        refine wp_region_held_drew (S := fun W => C5 W (w.heap.size + 1) p o h a y) (by kernel_rfl) ⟨c0, c1', c2, c3, c4⟩ (fun hH0 => ?_)
        refine wpAnyH_take (i := 0) (v := ?_) rfl (by kernel_rfl) (by kernel_rfl) (by kernel_rfl) (fun _ _ _ h => h) (Or.inl ⟨by rfl, ?_⟩) hH0 ?_
        rotate_left
        · (intro w hSw; obtain ⟨s0, s1, s2, s3, s4⟩ := hSw; go_simp; try (with_reducible rfl))
        try simp only [Act.put, List.getElem_toArray, List.getElem_cons_zero, List.setIfInBounds_toArray, List.set_cons_zero, List.set_cons_succ]
        refine wpAnyH_take (i := 1) (v := ?_) rfl (by kernel_rfl) (by kernel_rfl) (by kernel_rfl) (fun _ _ _ h => h) (Or.inl ⟨by rfl, ?_⟩) hH0 ?_
        rotate_left
        · (intro w hSw; obtain ⟨s0, s1, s2, s3, s4⟩ := hSw; go_simp; try (with_reducible rfl))
        try simp only [Act.put, List.getElem_toArray, List.getElem_cons_zero, List.getElem_cons_succ, List.setIfInBounds_toArray, List.set_cons_zero, List.set_cons_succ]
        refine wpAnyH_take (i := 3) (v := ?_) rfl (by kernel_rfl) (by kernel_rfl) (by kernel_rfl) (fun _ _ _ h => h) (Or.inl ⟨by rfl, ?_⟩) hH0 ?_
        rotate_left
        · (intro w hSw; obtain ⟨s0, s1, s2, s3, s4⟩ := hSw; go_simp; try (with_reducible rfl))
        try simp only [Act.put, List.getElem_toArray, List.getElem_cons_zero, List.getElem_cons_succ, List.setIfInBounds_toArray, List.set_cons_zero, List.set_cons_succ]
        refine wpAnyH_take (i := 4) (v := ?_) rfl (by kernel_rfl) (by kernel_rfl) (by kernel_rfl) (fun _ _ _ h => h) (Or.inl ⟨by rfl, ?_⟩) hH0 ?_
        rotate_left
        · (intro w hSw; obtain ⟨s0, s1, s2, s3, s4⟩ := hSw; go_simp; try (with_reducible rfl))
        try simp only [Act.put, List.getElem_toArray, List.getElem_cons_zero, List.getElem_cons_succ, List.setIfInBounds_toArray, List.set_cons_zero, List.set_cons_succ]
        refine wpAnyH_take (i := 6) (v := ?_) rfl (by kernel_rfl) (by kernel_rfl) (by kernel_rfl) (fun _ _ _ h => h) (Or.inl ⟨by rfl, ?_⟩) hH0 ?_
        rotate_left
        · (intro w hSw; obtain ⟨s0, s1, s2, s3, s4⟩ := hSw; go_simp; try (with_reducible rfl))
        try simp only [Act.put, List.getElem_toArray, List.getElem_cons_zero, List.getElem_cons_succ, List.setIfInBounds_toArray, List.set_cons_zero, List.set_cons_succ]
        refine wpAnyH_take (i := 7) (v := ?_) rfl (by kernel_rfl) (by kernel_rfl) (by kernel_rfl) (fun _ _ _ h => h) (Or.inl ⟨by rfl, ?_⟩) hH0 ?_
        rotate_left
        · (intro w hSw; obtain ⟨s0, s1, s2, s3, s4⟩ := hSw; go_simp; try (with_reducible rfl))
        try simp only [Act.put, List.getElem_toArray, List.getElem_cons_zero, List.getElem_cons_succ, List.setIfInBounds_toArray, List.set_cons_zero, List.set_cons_succ]
        refine wpAnyH_take (i := 8) (v := ?_) rfl (by kernel_rfl) (by kernel_rfl) (by kernel_rfl) (fun _ _ _ h => h) (Or.inl ⟨by rfl, ?_⟩) hH0 ?_
        rotate_left
        · (intro w hSw; obtain ⟨s0, s1, s2, s3, s4⟩ := hSw; go_simp; try (with_reducible rfl))
        try simp only [Act.put, List.getElem_toArray, List.getElem_cons_zero, List.getElem_cons_succ, List.setIfInBounds_toArray, List.set_cons_zero, List.set_cons_succ]
        refine wpAnyH_take (i := 9) (v := ?_) rfl (by kernel_rfl) (by kernel_rfl) (by kernel_rfl) (fun _ _ _ h => h) (Or.inl ⟨by rfl, ?_⟩) hH0 ?_
        rotate_left
        · (intro w hSw; obtain ⟨s0, s1, s2, s3, s4⟩ := hSw; go_simp; try (with_reducible rfl))
        try simp only [Act.put, List.getElem_toArray, List.getElem_cons_zero, List.getElem_cons_succ, List.setIfInBounds_toArray, List.set_cons_zero, List.set_cons_succ]
        refine wpAnyH_take (i := 10) (v := ?_) rfl (by kernel_rfl) (by kernel_rfl) (by kernel_rfl) (fun _ _ _ h => h) (Or.inl ⟨by rfl, ?_⟩) hH0 ?_
        rotate_left
        · (intro w hSw; obtain ⟨s0, s1, s2, s3, s4⟩ := hSw; go_simp; try (with_reducible rfl))
        try simp only [Act.put, List.getElem_toArray, List.getElem_cons_zero, List.getElem_cons_succ, List.setIfInBounds_toArray, List.set_cons_zero, List.set_cons_succ]
        refine wpAnyH_take (i := 11) (v := ?_) rfl (by kernel_rfl) (by kernel_rfl) (by kernel_rfl) (fun _ _ _ h => h) (Or.inl ⟨by rfl, ?_⟩) hH0 ?_
        rotate_left
        · (intro w hSw; obtain ⟨s0, s1, s2, s3, s4⟩ := hSw; go_simp; try (with_reducible rfl))
        try simp only [Act.put, List.getElem_toArray, List.getElem_cons_zero, List.getElem_cons_succ, List.setIfInBounds_toArray, List.set_cons_zero, List.set_cons_succ]
        refine wpAnyH_ready (rs := [2, 14]) (by kernel_rfl) (by simp) ?_
        refine AllReadyH.cons rfl (fun K hK => ?_) (AllReadyH.cons rfl (fun K hK => ?_) AllReadyH.nil)
        · simp only [List.getElem_toArray, List.getElem_cons_zero, List.getElem_cons_succ]
          go_simp
          refine (small_any _ _).mono ?_
          rintro e w' ⟨rfl, rfl⟩
          refine hK.out _ _ hH0 (fun hH1 => ?_)
          try simp only [Act.put, List.setIfInBounds_toArray, List.set_cons_zero, List.set_cons_succ]
          refine wpAnyH_ready (rs := [5, 14]) (by kernel_rfl) (by simp) ?_
          refine AllReadyH.cons rfl (fun K hK => ?_) (AllReadyH.cons rfl (fun K hK => ?_) AllReadyH.nil)
          · simp only [List.getElem_toArray, List.getElem_cons_zero, List.getElem_cons_succ]
            go_simp
            refine (small_any _ _).mono ?_
            rintro e w' ⟨rfl, rfl⟩
            refine hK.out _ _ hH1 (fun hH2 => ?_)
            try simp only [Act.put, List.setIfInBounds_toArray, List.set_cons_zero, List.set_cons_succ]
            refine wpAnyH_ready (rs := [12, 14]) (by kernel_rfl) (by simp) ?_
            refine AllReadyH.cons rfl (fun K hK => ?_) (AllReadyH.cons rfl (fun K hK => ?_) AllReadyH.nil)
            · simp only [List.getElem_toArray, List.getElem_cons_zero, List.getElem_cons_succ]
              go_simp
              refine (small_any _ _).mono ?_
              rintro e w' ⟨rfl, rfl⟩
              refine hK.out _ _ hH2 (fun hH3 => ?_)
              try simp only [Act.put, List.setIfInBounds_toArray, List.set_cons_zero, List.set_cons_succ]
              refine wpAnyH_take (i := 13) (v := ?_) rfl (by kernel_rfl) (by kernel_rfl) (by kernel_rfl) (fun _ _ _ h => h) (Or.inl ⟨by rfl, ?_⟩) hH3 ?_
              rotate_left
              · (intro w hSw; obtain ⟨s0, s1, s2, s3, s4⟩ := hSw; go_simp; try (with_reducible rfl))
              try simp only [Act.put, List.getElem_toArray, List.getElem_cons_zero, List.getElem_cons_succ, List.setIfInBounds_toArray, List.set_cons_zero, List.set_cons_succ]
              refine wpAnyH_ready (rs := [14]) (by kernel_rfl) (by simp) ?_
              refine AllReadyH.cons rfl (fun K hK => ?_) AllReadyH.nil
              simp only [List.getElem_toArray, List.getElem_cons_zero, List.getElem_cons_succ]
              go_simp
              refine hK.out _ _ (cells_new hH3 (by simpa using hg1) _ _) (fun hH4 => ?_)
              try simp only [Act.put, List.setIfInBounds_toArray, List.set_cons_zero, List.set_cons_succ]
              refine wpAnyH_ready (rs := [15]) (by kernel_rfl) (by simp) ?_
              refine AllReadyH.cons rfl (fun K hK => ?_) AllReadyH.nil
              simp only [List.getElem_toArray, List.getElem_cons_zero, List.getElem_cons_succ]
              go_simp
              refine hK.out _ _ (show C5 _ _ _ _ _ _ _ from cells_new hH0 hg1 _ _) (fun _ => ?_)
              clear hK
              refine wpAnyH_done (by kernel_rfl) ?_ _
              refine NoPanic.normal ?_
              clear c0 c1' c2 c3 c4 f0 f1 f2 f3 f4
              go_wp2_with fail
              by_cases ok : EvOK p o y
              · rw [show smallS p = p from small_eq (by unfold EvOK at ok; omega), show smallS o = o from small_eq (by unfold EvOK at ok; omega), show smallS y = y from small_eq (by unfold EvOK at ok; omega)]
                refine (check_yes p o y h a _ ok).mono ?_
                rintro e w1 ⟨rfl, hb1⟩
                have HDE := hid (decE_yes HD3.out ok)
                have HB9 := hid (show Below wr.heap.size wr w1 from below_go (below_new wr _ _) (undrew hb1))
                have n0 : w1.cell? ⟨wr.heap.size, 0, none⟩ = some (.int .i64 (p : Int)) := by rw [hb1.cell (p := ⟨wr.heap.size, 0, none⟩) (by simp)]; simp [go_sem]
                have n1 : w1.cell? ⟨wr.heap.size, 1, none⟩ = some (.int .i64 (o : Int)) := by rw [hb1.cell (p := ⟨wr.heap.size, 1, none⟩) (by simp)]; simp [go_sem]
                have n2 : w1.cell? ⟨wr.heap.size, 2, none⟩ = some (.int .u64 (h : Int)) := by rw [hb1.cell (p := ⟨wr.heap.size, 2, none⟩) (by simp)]; simp [go_sem]
                have n3 : w1.cell? ⟨wr.heap.size, 3, none⟩ = some (.int .u64 (a : Int)) := by rw [hb1.cell (p := ⟨wr.heap.size, 3, none⟩) (by simp)]; simp [go_sem]
                have n4 : w1.cell? ⟨wr.heap.size, 4, none⟩ = some (.int .i64 (y : Int)) := by rw [hb1.cell (p := ⟨wr.heap.size, 4, none⟩) (by simp)]; simp [go_sem]
                obtain ⟨c0, c1', c2, c3, c4, f0, f1, f2, f3, f4⟩ := five_of (own_below HR.out HB9.out)
                clear hb1 ok
                go_wp2
                rw [HDE.out]
                refine bodyPost_ret (v := retE ((p, o, h, a, y), 0)) (by simp [results, Try.results44, go_sem, retE, evv, evZero, n0, n1, n2, n3, n4, c0, c1', c2, c3, c4]) rfl ⟨rfl, ?_⟩
                repeat (refine Below.setCell ?_ (by simp) _)
                exact HB.out.trans (HB9.out.mono HB.out.size)
              · refine (check_no _ _ _ h a _ (fun hh => ok ((small_ok p o y).1 hh))).mono ?_
                rintro e w1 ⟨rfl, hb1⟩
                have HDE := hid (decE_no HD3.out ok)
                have HB9 := hid (show Below wr.heap.size wr w1 from below_go (below_new wr _ _) (undrew hb1))
                obtain ⟨c0, c1', c2, c3, c4, f0, f1, f2, f3, f4⟩ := five_of (own_below HR.out HB9.out)
                clear hb1 ok
                go_wp2
                rw [HDE.out]
                refine bodyPost_ret (v := retE (evZero, 1)) (by simp [results, Try.results44, go_sem, retE, evv, evZero, c0, c1', c2, c3, c4]) rfl ⟨rfl, ?_⟩
                repeat (refine Below.setCell ?_ (by simp) _)
                exact HB.out.trans (HB9.out.mono HB.out.size)
            · simp only [List.getElem_toArray, List.getElem_cons_zero, List.getElem_cons_succ]
              go_simp
              refine hK.out _ _ (cells_new hH2 (by simpa using hg1) _ _) (fun hH3 => ?_)
              try simp only [Act.put, List.setIfInBounds_toArray, List.set_cons_zero, List.set_cons_succ]
              refine wpAnyH_ready (rs := [12]) (by kernel_rfl) (by simp) ?_
              refine AllReadyH.cons rfl (fun K hK => ?_) AllReadyH.nil
              simp only [List.getElem_toArray, List.getElem_cons_zero, List.getElem_cons_succ]
              go_simp
              refine (small_any _ _).mono ?_
              rintro e w' ⟨rfl, rfl⟩
              refine hK.out _ _ hH3 (fun hH4 => ?_)
              try simp only [Act.put, List.setIfInBounds_toArray, List.set_cons_zero, List.set_cons_succ]
              refine wpAnyH_take (i := 13) (v := ?_) rfl (by kernel_rfl) (by kernel_rfl) (by kernel_rfl) (fun _ _ _ h => h) (Or.inl ⟨by rfl, ?_⟩) hH4 ?_
              rotate_left
              · (intro w hSw; obtain ⟨s0, s1, s2, s3, s4⟩ := hSw; go_simp; try (with_reducible rfl))
              try simp only [Act.put, List.getElem_toArray, List.getElem_cons_zero, List.getElem_cons_succ, List.setIfInBounds_toArray, List.set_cons_zero, List.set_cons_succ]
              refine wpAnyH_ready (rs := [15]) (by kernel_rfl) (by simp) ?_
              refine AllReadyH.cons rfl (fun K hK => ?_) AllReadyH.nil
              simp only [List.getElem_toArray, List.getElem_cons_zero, List.getElem_cons_succ]
              go_simp
              refine hK.out _ _ (show C5 _ _ _ _ _ _ _ from cells_new hH0 hg1 _ _) (fun _ => ?_)
              clear hK
              refine wpAnyH_done (by kernel_rfl) ?_ _
              refine NoPanic.normal ?_
              clear c0 c1' c2 c3 c4 f0 f1 f2 f3 f4
              go_wp2_with fail
              by_cases ok : EvOK p o y
              · rw [show smallS p = p from small_eq (by unfold EvOK at ok; omega), show smallS o = o from small_eq (by unfold EvOK at ok; omega), show smallS y = y from small_eq (by unfold EvOK at ok; omega)]
                refine (check_yes p o y h a _ ok).mono ?_
                rintro e w1 ⟨rfl, hb1⟩
                have HDE := hid (decE_yes HD3.out ok)
                have HB9 := hid (show Below wr.heap.size wr w1 from below_go (below_new wr _ _) (undrew hb1))
                have n0 : w1.cell? ⟨wr.heap.size, 0, none⟩ = some (.int .i64 (p : Int)) := by rw [hb1.cell (p := ⟨wr.heap.size, 0, none⟩) (by simp)]; simp [go_sem]
                have n1 : w1.cell? ⟨wr.heap.size, 1, none⟩ = some (.int .i64 (o : Int)) := by rw [hb1.cell (p := ⟨wr.heap.size, 1, none⟩) (by simp)]; simp [go_sem]
                have n2 : w1.cell? ⟨wr.heap.size, 2, none⟩ = some (.int .u64 (h : Int)) := by rw [hb1.cell (p := ⟨wr.heap.size, 2, none⟩) (by simp)]; simp [go_sem]
                have n3 : w1.cell? ⟨wr.heap.size, 3, none⟩ = some (.int .u64 (a : Int)) := by rw [hb1.cell (p := ⟨wr.heap.size, 3, none⟩) (by simp)]; simp [go_sem]
                have n4 : w1.cell? ⟨wr.heap.size, 4, none⟩ = some (.int .i64 (y : Int)) := by rw [hb1.cell (p := ⟨wr.heap.size, 4, none⟩) (by simp)]; simp [go_sem]
                obtain ⟨c0, c1', c2, c3, c4, f0, f1, f2, f3, f4⟩ := five_of (own_below HR.out HB9.out)
                clear hb1 ok
                go_wp2
                rw [HDE.out]
                refine bodyPost_ret (v := retE ((p, o, h, a, y), 0)) (by simp [results, Try.results44, go_sem, retE, evv, evZero, n0, n1, n2, n3, n4, c0, c1', c2, c3, c4]) rfl ⟨rfl, ?_⟩
                repeat (refine Below.setCell ?_ (by simp) _)
                exact HB.out.trans (HB9.out.mono HB.out.size)
              · refine (check_no _ _ _ h a _ (fun hh => ok ((small_ok p o y).1 hh))).mono ?_
                rintro e w1 ⟨rfl, hb1⟩
                have HDE := hid (decE_no HD3.out ok)
                have HB9 := hid (show Below wr.heap.size wr w1 from below_go (below_new wr _ _) (undrew hb1))
                obtain ⟨c0, c1', c2, c3, c4, f0, f1, f2, f3, f4⟩ := five_of (own_below HR.out HB9.out)
                clear hb1 ok
                go_wp2
                rw [HDE.out]
                refine bodyPost_ret (v := retE (evZero, 1)) (by simp [results, Try.results44, go_sem, retE, evv, evZero, c0, c1', c2, c3, c4]) rfl ⟨rfl, ?_⟩
                repeat (refine Below.setCell ?_ (by simp) _)
                exact HB.out.trans (HB9.out.mono HB.out.size)
          · simp only [List.getElem_toArray, List.getElem_cons_zero, List.getElem_cons_succ]
            go_simp
            refine hK.out _ _ (cells_new hH1 (by simpa using hg1) _ _) (fun hH2 => ?_)
            try simp only [Act.put, List.setIfInBounds_toArray, List.set_cons_zero, List.set_cons_succ]
            refine wpAnyH_ready (rs := [5]) (by kernel_rfl) (by simp) ?_
            refine AllReadyH.cons rfl (fun K hK => ?_) AllReadyH.nil
            simp only [List.getElem_toArray, List.getElem_cons_zero, List.getElem_cons_succ]
            go_simp
            refine (small_any _ _).mono ?_
            rintro e w' ⟨rfl, rfl⟩
            refine hK.out _ _ hH2 (fun hH3 => ?_)
            try simp only [Act.put, List.setIfInBounds_toArray, List.set_cons_zero, List.set_cons_succ]
            refine wpAnyH_ready (rs := [12]) (by kernel_rfl) (by simp) ?_
            refine AllReadyH.cons rfl (fun K hK => ?_) AllReadyH.nil
            simp only [List.getElem_toArray, List.getElem_cons_zero, List.getElem_cons_succ]
            go_simp
            refine (small_any _ _).mono ?_
            rintro e w' ⟨rfl, rfl⟩
            refine hK.out _ _ hH3 (fun hH4 => ?_)
            try simp only [Act.put, List.setIfInBounds_toArray, List.set_cons_zero, List.set_cons_succ]
            refine wpAnyH_take (i := 13) (v := ?_) rfl (by kernel_rfl) (by kernel_rfl) (by kernel_rfl) (fun _ _ _ h => h) (Or.inl ⟨by rfl, ?_⟩) hH4 ?_
            rotate_left
            · (intro w hSw; obtain ⟨s0, s1, s2, s3, s4⟩ := hSw; go_simp; try (with_reducible rfl))
            try simp only [Act.put, List.getElem_toArray, List.getElem_cons_zero, List.getElem_cons_succ, List.setIfInBounds_toArray, List.set_cons_zero, List.set_cons_succ]
            refine wpAnyH_ready (rs := [15]) (by kernel_rfl) (by simp) ?_
            refine AllReadyH.cons rfl (fun K hK => ?_) AllReadyH.nil
            simp only [List.getElem_toArray, List.getElem_cons_zero, List.getElem_cons_succ]
            go_simp
            refine hK.out _ _ (show C5 _ _ _ _ _ _ _ from cells_new hH0 hg1 _ _) (fun _ => ?_)
            clear hK
            refine wpAnyH_done (by kernel_rfl) ?_ _
            refine NoPanic.normal ?_
            clear c0 c1' c2 c3 c4 f0 f1 f2 f3 f4
            go_wp2_with fail
            by_cases ok : EvOK p o y
            · rw [show smallS p = p from small_eq (by unfold EvOK at ok; omega), show smallS o = o from small_eq (by unfold EvOK at ok; omega), show smallS y = y from small_eq (by unfold EvOK at ok; omega)]
              refine (check_yes p o y h a _ ok).mono ?_
              rintro e w1 ⟨rfl, hb1⟩
              have HDE := hid (decE_yes HD3.out ok)
              have HB9 := hid (show Below wr.heap.size wr w1 from below_go (below_new wr _ _) (undrew hb1))
              have n0 : w1.cell? ⟨wr.heap.size, 0, none⟩ = some (.int .i64 (p : Int)) := by rw [hb1.cell (p := ⟨wr.heap.size, 0, none⟩) (by simp)]; simp [go_sem]
              have n1 : w1.cell? ⟨wr.heap.size, 1, none⟩ = some (.int .i64 (o : Int)) := by rw [hb1.cell (p := ⟨wr.heap.size, 1, none⟩) (by simp)]; simp [go_sem]
              have n2 : w1.cell? ⟨wr.heap.size, 2, none⟩ = some (.int .u64 (h : Int)) := by rw [hb1.cell (p := ⟨wr.heap.size, 2, none⟩) (by simp)]; simp [go_sem]
              have n3 : w1.cell? ⟨wr.heap.size, 3, none⟩ = some (.int .u64 (a : Int)) := by rw [hb1.cell (p := ⟨wr.heap.size, 3, none⟩) (by simp)]; simp [go_sem]
              have n4 : w1.cell? ⟨wr.heap.size, 4, none⟩ = some (.int .i64 (y : Int)) := by rw [hb1.cell (p := ⟨wr.heap.size, 4, none⟩) (by simp)]; simp [go_sem]
              obtain ⟨c0, c1', c2, c3, c4, f0, f1, f2, f3, f4⟩ := five_of (own_below HR.out HB9.out)
              clear hb1 ok
              go_wp2
              rw [HDE.out]
              refine bodyPost_ret (v := retE ((p, o, h, a, y), 0)) (by simp [results, Try.results44, go_sem, retE, evv, evZero, n0, n1, n2, n3, n4, c0, c1', c2, c3, c4]) rfl ⟨rfl, ?_⟩
              repeat (refine Below.setCell ?_ (by simp) _)
              exact HB.out.trans (HB9.out.mono HB.out.size)
            · refine (check_no _ _ _ h a _ (fun hh => ok ((small_ok p o y).1 hh))).mono ?_
              rintro e w1 ⟨rfl, hb1⟩
              have HDE := hid (decE_no HD3.out ok)
              have HB9 := hid (show Below wr.heap.size wr w1 from below_go (below_new wr _ _) (undrew hb1))
              obtain ⟨c0, c1', c2, c3, c4, f0, f1, f2, f3, f4⟩ := five_of (own_below HR.out HB9.out)
              clear hb1 ok
              go_wp2
              rw [HDE.out]
              refine bodyPost_ret (v := retE (evZero, 1)) (by simp [results, Try.results44, go_sem, retE, evv, evZero, c0, c1', c2, c3, c4]) rfl ⟨rfl, ?_⟩
              repeat (refine Below.setCell ?_ (by simp) _)
              exact HB.out.trans (HB9.out.mono HB.out.size)
        · simp only [List.getElem_toArray, List.getElem_cons_zero, List.getElem_cons_succ]
          go_simp
          refine hK.out _ _ (cells_new hH0 (by simpa using hg1) _ _) (fun hH1 => ?_)
          try simp only [Act.put, List.setIfInBounds_toArray, List.set_cons_zero, List.set_cons_succ]
          refine wpAnyH_ready (rs := [2]) (by kernel_rfl) (by simp) ?_
          refine AllReadyH.cons rfl (fun K hK => ?_) AllReadyH.nil
          simp only [List.getElem_toArray, List.getElem_cons_zero, List.getElem_cons_succ]
          go_simp
          refine (small_any _ _).mono ?_
          rintro e w' ⟨rfl, rfl⟩
          refine hK.out _ _ hH1 (fun hH2 => ?_)
          try simp only [Act.put, List.setIfInBounds_toArray, List.set_cons_zero, List.set_cons_succ]
          refine wpAnyH_ready (rs := [5]) (by kernel_rfl) (by simp) ?_
          refine AllReadyH.cons rfl (fun K hK => ?_) AllReadyH.nil
          simp only [List.getElem_toArray, List.getElem_cons_zero, List.getElem_cons_succ]
          go_simp
          refine (small_any _ _).mono ?_
          rintro e w' ⟨rfl, rfl⟩
          refine hK.out _ _ hH2 (fun hH3 => ?_)
          try simp only [Act.put, List.setIfInBounds_toArray, List.set_cons_zero, List.set_cons_succ]
          refine wpAnyH_ready (rs := [12]) (by kernel_rfl) (by simp) ?_
          refine AllReadyH.cons rfl (fun K hK => ?_) AllReadyH.nil
          simp only [List.getElem_toArray, List.getElem_cons_zero, List.getElem_cons_succ]
          go_simp
          refine (small_any _ _).mono ?_
          rintro e w' ⟨rfl, rfl⟩
          refine hK.out _ _ hH3 (fun hH4 => ?_)
          try simp only [Act.put, List.setIfInBounds_toArray, List.set_cons_zero, List.set_cons_succ]
          refine wpAnyH_take (i := 13) (v := ?_) rfl (by kernel_rfl) (by kernel_rfl) (by kernel_rfl) (fun _ _ _ h => h) (Or.inl ⟨by rfl, ?_⟩) hH4 ?_
          rotate_left
          · (intro w hSw; obtain ⟨s0, s1, s2, s3, s4⟩ := hSw; go_simp; try (with_reducible rfl))
          try simp only [Act.put, List.getElem_toArray, List.getElem_cons_zero, List.getElem_cons_succ, List.setIfInBounds_toArray, List.set_cons_zero, List.set_cons_succ]
          refine wpAnyH_ready (rs := [15]) (by kernel_rfl) (by simp) ?_
          refine AllReadyH.cons rfl (fun K hK => ?_) AllReadyH.nil
          simp only [List.getElem_toArray, List.getElem_cons_zero, List.getElem_cons_succ]
          go_simp
          refine hK.out _ _ (show C5 _ _ _ _ _ _ _ from cells_new hH0 hg1 _ _) (fun _ => ?_)
          clear hK
          refine wpAnyH_done (by kernel_rfl) ?_ _
          refine NoPanic.normal ?_
          clear c0 c1' c2 c3 c4 f0 f1 f2 f3 f4
          go_wp2_with fail
          by_cases ok : EvOK p o y
          · rw [show smallS p = p from small_eq (by unfold EvOK at ok; omega), show smallS o = o from small_eq (by unfold EvOK at ok; omega), show smallS y = y from small_eq (by unfold EvOK at ok; omega)]
            refine (check_yes p o y h a _ ok).mono ?_
            rintro e w1 ⟨rfl, hb1⟩
            have HDE := hid (decE_yes HD3.out ok)
            have HB9 := hid (show Below wr.heap.size wr w1 from below_go (below_new wr _ _) (undrew hb1))
            have n0 : w1.cell? ⟨wr.heap.size, 0, none⟩ = some (.int .i64 (p : Int)) := by rw [hb1.cell (p := ⟨wr.heap.size, 0, none⟩) (by simp)]; simp [go_sem]
            have n1 : w1.cell? ⟨wr.heap.size, 1, none⟩ = some (.int .i64 (o : Int)) := by rw [hb1.cell (p := ⟨wr.heap.size, 1, none⟩) (by simp)]; simp [go_sem]
            have n2 : w1.cell? ⟨wr.heap.size, 2, none⟩ = some (.int .u64 (h : Int)) := by rw [hb1.cell (p := ⟨wr.heap.size, 2, none⟩) (by simp)]; simp [go_sem]
            have n3 : w1.cell? ⟨wr.heap.size, 3, none⟩ = some (.int .u64 (a : Int)) := by rw [hb1.cell (p := ⟨wr.heap.size, 3, none⟩) (by simp)]; simp [go_sem]
            have n4 : w1.cell? ⟨wr.heap.size, 4, none⟩ = some (.int .i64 (y : Int)) := by rw [hb1.cell (p := ⟨wr.heap.size, 4, none⟩) (by simp)]; simp [go_sem]
            obtain ⟨c0, c1', c2, c3, c4, f0, f1, f2, f3, f4⟩ := five_of (own_below HR.out HB9.out)
            clear hb1 ok
            go_wp2
            rw [HDE.out]
            refine bodyPost_ret (v := retE ((p, o, h, a, y), 0)) (by simp [results, Try.results44, go_sem, retE, evv, evZero, n0, n1, n2, n3, n4, c0, c1', c2, c3, c4]) rfl ⟨rfl, ?_⟩
            repeat (refine Below.setCell ?_ (by simp) _)
            exact HB.out.trans (HB9.out.mono HB.out.size)
          · refine (check_no _ _ _ h a _ (fun hh => ok ((small_ok p o y).1 hh))).mono ?_
            rintro e w1 ⟨rfl, hb1⟩
            have HDE := hid (decE_no HD3.out ok)
            have HB9 := hid (show Below wr.heap.size wr w1 from below_go (below_new wr _ _) (undrew hb1))
            obtain ⟨c0, c1', c2, c3, c4, f0, f1, f2, f3, f4⟩ := five_of (own_below HR.out HB9.out)
            clear hb1 ok
            go_wp2
            rw [HDE.out]
            refine bodyPost_ret (v := retE (evZero, 1)) (by simp [results, Try.results44, go_sem, retE, evv, evZero, c0, c1', c2, c3, c4]) rfl ⟨rfl, ?_⟩
            repeat (refine Below.setCell ?_ (by simp) _)
            exact HB.out.trans (HB9.out.mono HB.out.size)
end Go.Proofs.Ytmhmaodnkifcaaa
