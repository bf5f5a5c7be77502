/-
  WireOwn, walked.
-/
import Derived.Test.YtblmmnmkbiggiaaLawW5
import Derived.OneCell
namespace Go.Proofs.Ytblmmnmkbiggiaa
open Go.RowKit

theorem own_no (A : Option Addr) (n c x u : Nat) (w : World) (h : 100 < n) :
    Calls Try.prog 3 #[.slice A n c, .int .u64 x, .int .u8 u] w fun e w' => e = .returned (.bool true) ∧ Below w.heap.size w w' := by
  go_enter Try.func3, Try.ntmps3
  go_wp2_with fail
  refine (awake_any _).mono ?_
  rintro e w1 ⟨rfl, hb1⟩
  go_wp2
  go_ret
  exact ⟨rfl, hb1⟩

/-- What a round keeps: the row that is written, and the two that lie apart. -/
def Three (w : World) (b1 b2 : Nat) (A0 : Option Addr) (n c0 : Nat) (A1 : Option Addr) (p c1 : Nat) (lx : List UInt8) (A2 : Option Addr) (q c2 : Nat) (ly : List UInt8) (wr : World) : Prop :=
  (∃ l : List UInt8, l.length = n ∧ wr.ownsRow w.heap.size 5 1 (.slice A0 n c0) n (bys l)) ∧ wr.ownsRow b1 5 1 (.slice A1 p c1) p (bys lx) ∧ wr.ownsRow b2 5 1 (.slice A2 q c2) q (bys ly) ∧ Below w.heap.size w wr

theorem three_set {w wr : World} {b1 b2 g n c0 p c1 q c2 : Nat} {A1 A2 : Option Addr} {lx ly : List UInt8} (h : Three w b1 b2 (some ⟨g, 0, none⟩) n c0 A1 p c1 lx A2 q c2 ly wr) (h1 : g < b1) (h2 : g < b2) (hg : w.heap.size ≤ g) (i : Nat) (y : UInt8) :
    Three w b1 b2 (some ⟨g, 0, none⟩) n c0 A1 p c1 lx A2 q c2 ly (wr.setCell ⟨g, i, none⟩ (.int .u8 (y.toNat : Int))) := by
  obtain ⟨⟨l, hl, ho⟩, hx, hy, hb⟩ := h
  refine ⟨⟨l.set i y, by simp [hl], own_set ho i y⟩, ownsRow_setCell_other hx (fun e => ?_) _, ownsRow_setCell_other hy (fun e => ?_) _, hb.setCell hg _⟩
  · have := (hx.lt g e).1; omega
  · have := (hy.lt g e).1; omega

set_option maxRecDepth 100000 in
set_option maxHeartbeats 4000000 in
theorem own_yes (A : Option Addr) (n c x u : Nat) (l : List UInt8) (w : World) (hn : l.length = n) (hs : Sl w w.heap.size A (bys l)) (h1 : n ≤ 100) (hx : x < 18446744073709551616) (hu : u < 256) :
    Calls Try.prog 3 #[.slice A n c, .int .u64 x, .int .u8 u] w fun e w' => e = .returned (.bool true) ∧ Below w.heap.size w w' := by
  have HN := hid hn
  have HS := hid hs
  have HX := hid hx
  obtain ⟨x2, hx2⟩ : ∃ x2, x2 = x ^^^ 1 := ⟨_, rfl⟩
  have HX2 := hid (show x2 < 18446744073709551616 by
    rw [hx2]
    exact Nat.xor_lt_two_pow (n := 64) hx (by decide))
  have hxor : bits .xor .u64 (x : Int) 1 = (x2 : Int) := by
    rw [hx2]
    exact bits_xor_u64_nat x 1 hx (by decide)
  obtain ⟨i0, hi, hz0, hz1, hz2⟩ := info_parts info_u8
  clear hn hs hx hx2
  go_enter Try.func3, Try.ntmps3
  go_wp2_with (at_make; refine wpList_make_own _ rfl (.const (.int .i64 0)) (.tmp 20) 22 rfl w.heap.size 5 i0 (.int .u8 0) 1 Try.underlying22 hi hz0 hz1 .i64 .i64 _ (n + u) rfl rfl (by omega) (by rw [hz2]; omega) (by unfold maxLen; omega) (Nat.le_refl _) ?_)
  intro w1 ho1 hg1
  have HB1 := hid (show Below w.heap.size w w1 from (Below.refl _ _).grown hg1 (Nat.le_refl _) (by intro k hk; cases hk))
  have s1 := HS.out.go HB1.out
  go_wp2_with (at_builtin; refine wp_app8 rfl (.tmp 21) (.tmp 22) rfl w.heap.size _ 0 _ [] rfl ho1 A w1.heap.size n c l rfl HN.out s1 n (by omega) (by omega) HB1.out.size ?_)
  intro A0 c0 w2 ho2 hg2
  have HB2 := hid (below_app HB1.out ho1 (Nat.le_refl _) hg2)
  have HO2 := hid ho2
  have HP := hid (put_any A0 n c0 _ x l w2 HN.out (Sl.of_own ho2) (Nat.le_refl _) (by omega) HX.out)
  clear ho1 hg1 s1 hg2 ho2 hi hz0 hz1 hz2
  go_wp2_with fail
  refine HP.out.mono ?_
  rintro e w3 ⟨A1, c1, rfl, ho3, hb3⟩
  obtain ⟨p, hp⟩ : ∃ p, p = n + (enc x).length := ⟨_, rfl⟩
  rw [← hp] at ho3 ⊢
  have HB3 := hid (below_go HB2.out hb3)
  have HO23 := hid (own_below HO2.out hb3)
  have HX3 := hid ho3
  have HQ := hid (put_any A0 n c0 _ x2 l w3 HN.out (Sl.of_own HO23.out) (Nat.le_refl _) (by omega) HX2.out)
  have HZ3 := hid hb3.size
  clear ho3 hb3 hp HP
  go_wp2_with fail
  refine HQ.out.mono ?_
  rintro e w4 ⟨A2, c2, rfl, ho4, hb4⟩
  obtain ⟨q, hq⟩ : ∃ q, q = n + (enc x2).length := ⟨_, rfl⟩
  rw [← hq] at ho4 ⊢
  have HB4 := hid (below_go HB3.out hb4)
  have HO24 := hid (own_below HO23.out hb4)
  have HX4 := hid (own_below HX3.out hb4)
  have HY4 := hid ho4
  have kx4 := str_own HX4.out
  clear ho4 hb4 hq HQ
  go_wp2_with fail
  clear kx4
  go_loopw [35] (fun i wr => ∃ k : Nat, k ≤ n ∧ i = .int .i64 k ∧ Three w w2.heap.size w3.heap.size A0 n c0 A1 p c1 (l ++ enc x) A2 q c2 (l ++ enc x2) wr) (fun i _ => n - (intOf i).toNat)
  case atStart => exact ⟨0, by omega, rfl, ⟨l, HN.out, HO24.out⟩, HX4.out, HY4.out, HB4.out⟩
  case round =>
    obtain ⟨k, hk, rfl, ht⟩ := hrel
    have HT := hid ht
    obtain ⟨⟨l', hl', ho⟩, hxr, hyr, hbr⟩ := ht
    by_cases hlt : k < n
    · obtain ⟨g, rfl, hgb, hgw⟩ := own_at ho (by omega)
      have hg2 : g < w2.heap.size := by
        obtain ⟨g', e, _, hlt2⟩ := own_at HO2.out (by omega)
        injection e with e
        injection e with e
        omega
      obtain ⟨y, hy⟩ : ∃ y, l'[k]? = some y := ⟨_, List.getElem?_eq_getElem (by omega)⟩
      have hcell := own_cell ho hlt hy
      have hfr := ho.frozenAt k
      have hadd : ((y.toNat : Int) + 1) % 256 = ((y + 1).toNat : Int) := by
        rw [UInt8.toNat_add]
        simp
      have HT2 := hid (three_set HT.out hg2 (by have := HZ3.out; omega) hgb k (y + 1))
      have hw8 : IntKind.u8.wrap ((y.toNat : Int) + 1) = ((y + 1).toNat : Int) := by rw [IntKind.wrap_u8]; exact hadd
      clear hadd hy ho hxr hyr hbr hl'
      go_wp2
      go_roundw
      case rel => exact ⟨k + 1, by omega, by go_num, HT2.out⟩
      case measure => simp [intOf]; omega
    · have HXR := hid hxr
      have HYR := hid hyr
      have HBR := hid hbr
      clear hl' ho hxr hyr hbr HT HO2 HO23 HO24 HX3 HX4 HY4 HB1 HB2 HB3 HB4 HZ3
      go_wp2_with fail
      refine wp_region_noPanic ?_
      refine wp_region_held_drew (S := (fun w' => (convert 22 9 (.slice A1 p c1)).run Try.prog w' = .ok (.string (strOf (l ++ enc x))) w' ∧ (convert 22 9 (.slice A2 q c2)).run Try.prog w' = .ok (.string (strOf (l ++ enc x2))) w')) (by kernel_rfl) ⟨str_own HXR.out, str_own HYR.out⟩ (fun hH0 => ?_)
      refine wpAnyH_ready (rs := [0]) (by kernel_rfl) (by simp) ?_
      refine AllReadyH.cons rfl (fun K hK => ?_) AllReadyH.nil
      simp only [List.getElem_toArray, List.getElem_cons_zero]
      go_simp
      refine (awake_any _).mono ?_
      rintro e w3 ⟨rfl, hb3'⟩
      have HB3' := hid (undrew hb3')
      have HB3 := hid (below_go HBR.out HB3'.out)
      have HX3 := hid (own_below HXR.out HB3'.out)
      have HY3 := hid (own_below HYR.out HB3'.out)
      clear hb3'
      go_wp2_with fail
      refine hK.out _ _ ⟨str_own HX3.out, str_own HY3.out⟩ (fun hH1 => ?_)
      clear hK K hH0
      try simp only [Act.put, List.setIfInBounds_toArray, List.set_cons_zero, List.set_cons_succ]
      refine wpAnyH_take (i := 1) (v := ?_) rfl (by kernel_rfl) (by kernel_rfl) (by kernel_rfl) (fun _ _ _ h => h) (Or.inl ⟨by rfl, ?_⟩) hH1 ?_
      rotate_left
      · (intro w hSw; (try dsimp only at hSw); go_simp; try (with_reducible rfl))
      try simp only [Act.put, List.getElem_toArray, List.getElem_cons_zero, List.getElem_cons_succ, List.setIfInBounds_toArray, List.set_cons_zero, List.set_cons_succ]
      refine wpAnyH_take (i := 2) (v := ?_) rfl (by kernel_rfl) (by kernel_rfl) (by kernel_rfl) (fun _ _ _ h => h) (Or.inl ⟨by rfl, ?_⟩) hH1 ?_
      rotate_left
      · (intro w hSw; (try dsimp only at hSw); go_simp; try (with_reducible rfl))
      try simp only [Act.put, List.getElem_toArray, List.getElem_cons_zero, List.getElem_cons_succ, List.setIfInBounds_toArray, List.set_cons_zero, List.set_cons_succ]
      refine wpAnyH_take (i := 3) (v := ?_) rfl (by kernel_rfl) (by kernel_rfl) (by kernel_rfl) (fun _ _ _ h => h) (Or.inl ⟨by rfl, ?_⟩) hH1 ?_
      rotate_left
      · (intro w hSw; (try dsimp only at hSw); go_simp; try (with_reducible rfl))
      try simp only [Act.put, List.getElem_toArray, List.getElem_cons_zero, List.getElem_cons_succ, List.setIfInBounds_toArray, List.set_cons_zero, List.set_cons_succ]
      refine wpAnyH_take (i := 4) (v := ?_) rfl (by kernel_rfl) (by kernel_rfl) (by kernel_rfl) (fun _ _ _ h => h) (Or.inl ⟨by rfl, ?_⟩) hH1 ?_
      rotate_left
      · (intro w hSw; (try dsimp only at hSw); go_simp; try (with_reducible rfl))
      try simp only [Act.put, List.getElem_toArray, List.getElem_cons_zero, List.getElem_cons_succ, List.setIfInBounds_toArray, List.set_cons_zero, List.set_cons_succ]
      refine wpAnyH_take (i := 5) (v := ?_) rfl (by kernel_rfl) (by kernel_rfl) (by kernel_rfl) (fun _ _ _ h => h) (Or.inl ⟨by rfl, ?_⟩) hH1 ?_
      rotate_left
      · (intro w hSw; (try dsimp only at hSw); go_simp; try (with_reducible rfl))
      try simp only [Act.put, List.getElem_toArray, List.getElem_cons_zero, List.getElem_cons_succ, List.setIfInBounds_toArray, List.set_cons_zero, List.set_cons_succ]
      refine wpAnyH_take (i := 6) (v := ?_) rfl (by kernel_rfl) (by kernel_rfl) (by kernel_rfl) (fun _ _ _ h => h) (Or.inl ⟨by rfl, ?_⟩) hH1 ?_
      rotate_left
      · (intro w hSw; (try dsimp only at hSw); go_simp; try (with_reducible rfl))
      try simp only [Act.put, List.getElem_toArray, List.getElem_cons_zero, List.getElem_cons_succ, List.setIfInBounds_toArray, List.set_cons_zero, List.set_cons_succ]
      refine wpAnyH_take (i := 7) (v := ?_) rfl (by kernel_rfl) (by kernel_rfl) (by kernel_rfl) (fun _ _ _ h => h) (Or.inl ⟨by rfl, ?_⟩) hH1 ?_
      rotate_left
      · (intro w hSw; (try dsimp only at hSw); go_simp; try (with_reducible rfl))
      try simp only [Act.put, List.getElem_toArray, List.getElem_cons_zero, List.getElem_cons_succ, List.setIfInBounds_toArray, List.set_cons_zero, List.set_cons_succ]
      refine wpAnyH_take (i := 8) (v := ?_) rfl (by kernel_rfl) (by kernel_rfl) (by kernel_rfl) (fun _ _ _ h => h) (Or.inl ⟨by rfl, ?_⟩) hH1 ?_
      rotate_left
      · (intro w hSw; (try dsimp only at hSw); go_simp; try (with_reducible rfl))
      try simp only [Act.put, List.getElem_toArray, List.getElem_cons_zero, List.getElem_cons_succ, List.setIfInBounds_toArray, List.set_cons_zero, List.set_cons_succ]
      refine wpAnyH_take (i := 9) (v := ?_) rfl (by kernel_rfl) (by kernel_rfl) (by kernel_rfl) (fun _ _ _ h => h) (Or.inl ⟨by rfl, ?_⟩) hH1 ?_
      rotate_left
      · (intro w hSw; (try dsimp only at hSw); go_simp; try (with_reducible rfl))
      try simp only [Act.put, List.getElem_toArray, List.getElem_cons_zero, List.getElem_cons_succ, List.setIfInBounds_toArray, List.set_cons_zero, List.set_cons_succ]
      refine wpAnyH_take (i := 10) (v := ?_) rfl (by kernel_rfl) (by kernel_rfl) (by kernel_rfl) (fun _ _ _ h => h) (Or.inl ⟨by rfl, ?_⟩) hH1 ?_
      rotate_left
      · (intro w hSw; (try dsimp only at hSw); go_simp; try (with_reducible rfl))
      try simp only [Act.put, List.getElem_toArray, List.getElem_cons_zero, List.getElem_cons_succ, List.setIfInBounds_toArray, List.set_cons_zero, List.set_cons_succ]
      refine wpAnyH_ready (rs := [11]) (by kernel_rfl) (by simp) ?_
      refine AllReadyH.cons rfl (fun K hK => ?_) AllReadyH.nil
      simp only [List.getElem_toArray, List.getElem_cons_zero, List.getElem_cons_succ]
      go_simp
      refine (rput_any A n c _ x l _ HN.out (HS.out.go HB3.out) (Nat.le_refl _) (by omega) HX.out).mono ?_
      rintro e w4 ⟨A4, c4, rfl, ho4, hb4⟩
      have HB4 := hid (below_go HB3.out hb4)
      have HX4 := hid (own_below HX3.out hb4)
      have HY4 := hid (own_below HY3.out hb4)
      have kr4 := str_own ho4
      clear hb4 ho4
      go_wp2_with fail
      refine hK.out _ _ ⟨str_own HX4.out, str_own HY4.out⟩ (fun hH2 => ?_)
      clear hK K hH1
      try simp only [Act.put, List.setIfInBounds_toArray, List.set_cons_zero, List.set_cons_succ]
      refine wpAnyH_ready (rs := [12]) (by kernel_rfl) (by simp) ?_
      refine AllReadyH.cons rfl (fun K hK => ?_) AllReadyH.nil
      simp only [List.getElem_toArray, List.getElem_cons_zero, List.getElem_cons_succ]
      go_simp
      refine hK.out _ _ ⟨str_own HX4.out, str_own HY4.out⟩ (fun hH3 => ?_)
      clear hK K hH2
      try simp only [Act.put, List.setIfInBounds_toArray, List.set_cons_zero, List.set_cons_succ]
      refine wpAnyH_take (i := 13) (v := ?_) rfl (by kernel_rfl) (by kernel_rfl) (by kernel_rfl) (fun _ _ _ h => h) (Or.inl ⟨by rfl, ?_⟩) hH3 ?_
      rotate_left
      · (intro w hSw; (try dsimp only at hSw); go_simp; try (with_reducible rfl))
      try simp only [Act.put, List.getElem_toArray, List.getElem_cons_zero, List.getElem_cons_succ, List.setIfInBounds_toArray, List.set_cons_zero, List.set_cons_succ]
      refine wpAnyH_take (i := 14) (v := ?_) rfl (by kernel_rfl) (by kernel_rfl) (by kernel_rfl) (fun _ _ _ h => h) (Or.inl ⟨by rfl, ?_⟩) hH3 ?_
      rotate_left
      · (intro w hSw; (try dsimp only at hSw); go_simp; try (with_reducible rfl))
      try simp only [Act.put, List.getElem_toArray, List.getElem_cons_zero, List.getElem_cons_succ, List.setIfInBounds_toArray, List.set_cons_zero, List.set_cons_succ]
      refine wpAnyH_take (i := 15) (v := ?_) rfl (by kernel_rfl) (by kernel_rfl) (by kernel_rfl) (fun _ _ _ h => h) (Or.inl ⟨by rfl, ?_⟩) hH3 ?_
      rotate_left
      · (intro w hSw; (try dsimp only at hSw); go_simp; try (with_reducible rfl))
      try simp only [Act.put, List.getElem_toArray, List.getElem_cons_zero, List.getElem_cons_succ, List.setIfInBounds_toArray, List.set_cons_zero, List.set_cons_succ]
      refine wpAnyH_take (i := 16) (v := ?_) rfl (by kernel_rfl) (by kernel_rfl) (by kernel_rfl) (fun _ _ _ h => h) (Or.inl ⟨by rfl, ?_⟩) hH3 ?_
      rotate_left
      · (intro w hSw; (try dsimp only at hSw); go_simp; try (with_reducible rfl))
      try simp only [Act.put, List.getElem_toArray, List.getElem_cons_zero, List.getElem_cons_succ, List.setIfInBounds_toArray, List.set_cons_zero, List.set_cons_succ]
      refine wpAnyH_take (i := 17) (v := ?_) rfl (by kernel_rfl) (by kernel_rfl) (by kernel_rfl) (fun _ _ _ h => h) (Or.inl ⟨by rfl, ?_⟩) hH3 ?_
      rotate_left
      · (intro w hSw; (try dsimp only at hSw); go_simp; try (with_reducible rfl))
      try simp only [Act.put, List.getElem_toArray, List.getElem_cons_zero, List.getElem_cons_succ, List.setIfInBounds_toArray, List.set_cons_zero, List.set_cons_succ]
      refine wpAnyH_take (i := 18) (v := ?_) rfl (by kernel_rfl) (by kernel_rfl) (by kernel_rfl) (fun _ _ _ h => h) (Or.inl ⟨by rfl, ?_⟩) hH3 ?_
      rotate_left
      · (intro w hSw; (try dsimp only at hSw); go_simp; try (with_reducible rfl))
      try simp only [Act.put, List.getElem_toArray, List.getElem_cons_zero, List.getElem_cons_succ, List.setIfInBounds_toArray, List.set_cons_zero, List.set_cons_succ]
      refine wpAnyH_take (i := 19) (v := ?_) rfl (by kernel_rfl) (by kernel_rfl) (by kernel_rfl) (fun _ _ _ h => h) (Or.inl ⟨by rfl, ?_⟩) hH3 ?_
      rotate_left
      · (intro w hSw; (try dsimp only at hSw); go_simp; try (with_reducible rfl))
      try simp only [Act.put, List.getElem_toArray, List.getElem_cons_zero, List.getElem_cons_succ, List.setIfInBounds_toArray, List.set_cons_zero, List.set_cons_succ]
      refine wpAnyH_take (i := 20) (v := ?_) rfl (by kernel_rfl) (by kernel_rfl) (by kernel_rfl) (fun _ _ _ h => h) (Or.inl ⟨by rfl, ?_⟩) hH3 ?_
      rotate_left
      · (intro w hSw; (try dsimp only at hSw); go_simp; try (with_reducible rfl))
      try simp only [Act.put, List.getElem_toArray, List.getElem_cons_zero, List.getElem_cons_succ, List.setIfInBounds_toArray, List.set_cons_zero, List.set_cons_succ]
      refine wpAnyH_ready (rs := [21]) (by kernel_rfl) (by simp) ?_
      refine AllReadyH.cons rfl (fun K hK => ?_) AllReadyH.nil
      simp only [List.getElem_toArray, List.getElem_cons_zero, List.getElem_cons_succ]
      go_simp
      refine (rput_any A n c _ x2 l _ HN.out (HS.out.go HB4.out) (Nat.le_refl _) (by omega) HX2.out).mono ?_
      rintro e w5 ⟨A5, c5, rfl, ho5, hb5⟩
      have HB5 := hid (below_go HB4.out hb5)
      have HX5 := hid (own_below HX4.out hb5)
      have HY5 := hid (own_below HY4.out hb5)
      have kr5 := str_own ho5
      clear hb5 ho5
      go_wp2_with fail
      refine hK.out _ _ ⟨str_own HX5.out, str_own HY5.out⟩ (fun hH4 => ?_)
      clear hK K hH3
      try simp only [Act.put, List.setIfInBounds_toArray, List.set_cons_zero, List.set_cons_succ]
      refine wpAnyH_ready (rs := [22]) (by kernel_rfl) (by simp) ?_
      refine AllReadyH.cons rfl (fun K hK => ?_) AllReadyH.nil
      simp only [List.getElem_toArray, List.getElem_cons_zero, List.getElem_cons_succ]
      go_simp
      refine hK.out _ _ ⟨str_own HX5.out, str_own HY5.out⟩ (fun hH5 => ?_)
      clear hK K hH4
      try simp only [Act.put, List.setIfInBounds_toArray, List.set_cons_zero, List.set_cons_succ]
      refine wpAnyH_take (i := 23) (v := ?_) rfl (by kernel_rfl) (by kernel_rfl) (by kernel_rfl) (fun _ _ _ h => h) (Or.inl ⟨by rfl, ?_⟩) hH5 ?_
      rotate_left
      · (intro w hSw; (try dsimp only at hSw); go_simp; try (with_reducible rfl))
      try simp only [Act.put, List.getElem_toArray, List.getElem_cons_zero, List.getElem_cons_succ, List.setIfInBounds_toArray, List.set_cons_zero, List.set_cons_succ]
      refine wpAnyH_take (i := 24) (v := ?_) rfl (by kernel_rfl) (by kernel_rfl) (by kernel_rfl) (fun _ _ _ h => h) (Or.inl ⟨by rfl, ?_⟩) hH5 ?_
      rotate_left
      · (intro w hSw; (try dsimp only at hSw); go_simp; try (with_reducible rfl))
      try simp only [Act.put, List.getElem_toArray, List.getElem_cons_zero, List.getElem_cons_succ, List.setIfInBounds_toArray, List.set_cons_zero, List.set_cons_succ]
      refine wpAnyH_take (i := 25) (v := ?_) rfl (by kernel_rfl) (by kernel_rfl) (by kernel_rfl) (fun _ _ _ h => h) (Or.inl ⟨by rfl, ?_⟩) hH5 ?_
      rotate_left
      · (intro w hSw; (try dsimp only at hSw); go_simp; try (with_reducible rfl))
      try simp only [Act.put, List.getElem_toArray, List.getElem_cons_zero, List.getElem_cons_succ, List.setIfInBounds_toArray, List.set_cons_zero, List.set_cons_succ]
      refine wpAnyH_done (by kernel_rfl) ?_ _
      refine NoPanic.normal ?_
      go_wp2
      go_ret
      exact ⟨rfl, HB5.out⟩

theorem law_own (A : Option Addr) (n c x u : Nat) (l : List UInt8) (w : World) (hn : l.length = n) (hs : Sl w w.heap.size A (bys l)) (hx : x < 18446744073709551616) (hu : u < 256) :
    Calls Try.prog 3 #[.slice A n c, .int .u64 x, .int .u8 u] w fun e w' => e = .returned (.bool true) ∧ Below w.heap.size w w' := by
  by_cases h : 100 < n
  · exact own_no A n c x u w h
  · exact own_yes A n c x u l w hn hs (by omega) hx hu
end Go.Proofs.Ytblmmnmkbiggiaa
