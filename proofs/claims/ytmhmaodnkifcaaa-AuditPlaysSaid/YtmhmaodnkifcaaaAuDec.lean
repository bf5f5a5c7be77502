/-
  audit.Decode.
-/
import Derived.Test.YtmhmaodnkifcaaaAuRow
import Derived.Test.YtmhmaodnkifcaaaAuDig
import Derived.Test.YtmhmaodnkifcaaaEvDec
import Derived.Test.YtmhmaodnkifcaaaWireB
import Derived.Test.YtmhmaodnkifcaaaStr
import Derived.OneCell
import Derived.Deep.RegionHeld3
namespace Go.Proofs.Ytmhmaodnkifcaaa
open Go.RowKit
set_option linter.unusedSimpArgs false
set_option linter.unusedVariables false

/-- Events in a slice of the call, and an error. -/
def OwnEvs (w : World) (r : List Ev × Nat) (e : Ending) (w' : World) : Prop :=
  ∃ A c, e = .returned (.tuple #[.slice A r.1.length c, .int .i64 r.2]) ∧ w'.ownsRow w.heap.size 36 5 (.slice A r.1.length c) r.1.length (evs r.1) ∧ Below w.heap.size w w'
/-- What Decode says of bytes. -/
def resL (l : List UInt8) : List Ev × Nat := onto [] (decL l.length fStart l)
/-- What a round keeps. -/
def Rl (w : World) (l : List UInt8) (b o dv : Value) (n1 : Nat) (wr : World) : Prop :=
  ∃ (acc : List Ev) (rest : List UInt8) (d f : Nat) (A1 : Option Addr) (c1 : Nat) (Ao : Option Addr) (co : Nat), b = .slice A1 n1 c1 ∧ o = .slice Ao acc.length co ∧ dv = .int .u64 d ∧ rest.length = n1 ∧ n1 ≤ c1 ∧ acc.length + n1 ≤ l.length ∧
    Sl wr w.heap.size A1 (bys rest) ∧ wr.ownsRow w.heap.size 36 5 (.slice Ao acc.length co) acc.length (evs acc) ∧ n1 ≤ f ∧ resL l = onto acc (decL f d rest) ∧ d < 18446744073709551616 ∧ Below w.heap.size w wr
/-- An event in a block of its own. -/
def EvAt (g : Nat) (p o h a x : Int) (w : World) : Prop :=
  (w.cell? ⟨g, 0, none⟩ = some (.int .i64 p) ∧ w.cell? ⟨g, 1, none⟩ = some (.int .i64 o) ∧ w.cell? ⟨g, 2, none⟩ = some (.int .u64 h) ∧ w.cell? ⟨g, 3, none⟩ = some (.int .u64 a) ∧ w.cell? ⟨g, 4, none⟩ = some (.int .i64 x)) ∧ g < w.heap.size
theorem ev_keep {g : Nat} {p o h a x : Int} {w w' : World} (he : EvAt g p o h a x w) (hb : Below w.heap.size w w') : EvAt g p o h a x w' := by
  obtain ⟨⟨h0, h1, h2, h3, h4⟩, hg⟩ := he
  exact ⟨⟨(hb.cell (p := ⟨g, 0, none⟩) hg).trans h0, (hb.cell (p := ⟨g, 1, none⟩) hg).trans h1, (hb.cell (p := ⟨g, 2, none⟩) hg).trans h2, (hb.cell (p := ⟨g, 3, none⟩) hg).trans h3, (hb.cell (p := ⟨g, 4, none⟩) hg).trans h4⟩, Nat.lt_of_lt_of_le hg hb.size⟩
theorem ev_new (p o h a x : Int) (w : World) : EvAt w.heap.size p o h a x (w.alloc (.cells #[.int .i64 p, .int .i64 o, .int .u64 h, .int .u64 a, .int .i64 x] 36)) :=
  ⟨⟨by simp [go_sem], by simp [go_sem], by simp [go_sem], by simp [go_sem], by simp [go_sem]⟩, by simp⟩
theorem onto_err (acc : List Ev) (e : Nat) (h : e ≠ 0) : onto acc ([], e) = ([], e) := by unfold onto; rw [if_neg h]

set_option maxRecDepth 100000 in
set_option maxHeartbeats 2000000 in
theorem adec_any (A : Option Addr) (n c : Nat) (l : List UInt8) (w : World) (hn : l.length = n) (hc : n ≤ c) (hs : Sl w w.heap.size A (bys l)) (hm : n ≤ 100000) :
    Calls Try.prog 16 #[.slice A n c] w (OwnEvs w (resL l)) := by
  have R0 := hid (show Rl w l (.slice A n c) (.slice none 0 0) (.int .u64 (fnv fStart [])) n w from ⟨[], l, fStart, l.length, A, c, none, 0, rfl, rfl, by rw [fnv_nil], hn, hc, by simp [hn], hs, World.ownsRow_nil _ _ _ _, by omega, rfl, fStart_lt, Below.refl _ _⟩)
  have HN := hid hn
  have H0 := hid (sum_any none 0 0 0 [] w rfl (.inl rfl) (by decide))
  clear hn hs hc
  go_enter Try.func16, Try.ntmps16
  go_wp2_with fail
  refine H0.out.mono ?_
  rintro e w1 ⟨rfl, rfl⟩
  go_wp2_with fail
  go_loopw [0, 4, 5] (fun b o dv wr => ∃ n1 : Nat, Rl w l b o dv n1 wr) (fun b _ _ _ => match b with | .slice _ n _ => n | _ => 0)
  case atStart => exact ⟨n, R0.out⟩
  case round =>
    obtain ⟨n1, acc, rest, d, f, A1, c1, Ao, co, rfl, rfl, rfl, hr, hc1, hal, hsl, ho, hf, hd, hdl, hb⟩ := hrel
    have HR := hid hr
    have HC := hid hc1
    have HSL := hid hsl
    have HO := hid ho
    have HD := hid hd
    have HB := hid hb
    have hn1 : n1 ≤ 100000 := by rw [HN.out] at hal; omega
    have hacc : acc.length + n1 ≤ 100000 := by rw [HN.out] at hal; omega
    have HAL := hid hal
    have HF := hid hf
    clear hr hc1 hsl ho hd hb hal hf
    by_cases h0 : 0 < n1
    · obtain ⟨f, rfl⟩ : ∃ g, f = g + 1 := ⟨f - 1, by have := HF.out; omega⟩
      have ne : rest ≠ [] := by intro e; have := HR.out; rw [e] at this; simp at this; omega
      obtain ⟨bl, off, hA1, _, _⟩ := HSL.out.at_ (k := 0) (by rw [bys_length, HR.out]; exact h0)
      subst hA1
      have HBY := hid (bytes_any _ n1 c1 _ rest wr HR.out HC.out HSL.out HB.out.size (by omega))
      have HE1 := hid (fun e => decL_e1 (f := f) (d := d) ne e)
      have HE2 := hid (fun e => decL_e2 (f := f) (d := d) ne e)
      have HE3 := hid (fun e => decL_e3 (f := f) (d := d) ne e)
      have HE4 := hid (fun e => decL_e4 (f := f) (d := d) ne e)
      have HOK := hid (fun e => decL_ok (f := f) (d := d) ne e)
      have HSZ := hid (decB_size rest)
      have HLE := hid (decB_len rest)
      obtain ⟨⟨r, s, e1⟩, hdb⟩ : ∃ q, decB rest = q := ⟨_, rfl⟩
      rw [hdb] at HBY HE1 HE2 HE3 HE4 HOK HSZ HLE
      clear hdb ne
      have hsz : s ≤ n1 := by rw [← HR.out]; exact HSZ.out
      have hrl : r.length ≤ n1 := by rw [← HR.out]; exact HLE.out
      go_wp2_with fail
      refine HBY.out.mono ?_
      rintro e w2 ⟨A2, c2, rfl, ho2, hb2⟩
      have HB2 := hid (below_go HB.out hb2)
      have HO2 := hid ho2
      have HBW := hid (hb2.mono HB.out.size)
      have HEV2 := hid (own_below HO.out hb2)
      clear ho2 hb2
      by_cases he1 : e1 = 0
      · subst he1
        have HCUT := HSL.out.below HBW.out
        have HCUT := HCUT.cut (k := s) (c := c1) (by rw [bys_length, HR.out]; exact HC.out) 1 rfl
        rw [← bys_drop, Nat.mul_one] at HCUT
        by_cases hcs : c1 = s
        · have h8 : rest.length - s < 8 := by rw [HR.out]; have := HC.out; omega
          have HRES := hid (show resL l = ([], 2) by rw [HD.out, HE2.out rfl h8]; exact onto_err _ _ (by decide))
          clear HCUT h8
          have hn1s : n1 = s := by have := HC.out; omega
          subst hcs
          subst hn1s
          go_wp2
          rw [HRES.out]
          go_ret2
          exact ⟨none, 0, rfl, World.ownsRow_nil _ _ _ _, HB2.out⟩
        · rw [if_neg hcs] at HCUT
          have HCU := hid HCUT
          clear HCUT
          by_cases h8 : n1 - s < 8
          · have HRES := hid (show resL l = ([], 2) by rw [HD.out, HE2.out rfl (by rw [HR.out]; exact h8)]; exact onto_err _ _ (by decide))
            have h8' : ((n1 - s : Nat) : Int) < 8 := by omega
            go_wp2
            rw [HRES.out]
            go_ret2
            exact ⟨none, 0, rfl, World.ownsRow_nil _ _ _ _, HB2.out⟩
          · have h8' : ¬ ((n1 - s : Nat) : Int) < 8 := by omega
            have HDE := hid (edec_any A2 r.length c2 r w2 rfl (own_le HO2.out) (Sl.of_own HO2.out) (by omega))
            have HE3' := hid (fun h => HE3.out rfl (by rw [HR.out]; exact h8) h)
            have HE4' := hid (fun h => HE4.out rfl (by rw [HR.out]; exact h8) h)
            have HOK' := hid (fun h => HOK.out rfl (by rw [HR.out]; exact h8) h)
            obtain ⟨⟨⟨p, o, h, a, x⟩, e2⟩, hev⟩ : ∃ q, decE r = q := ⟨_, rfl⟩
            rw [hev] at HDE HE3' HE4' HOK'
            unfold retE evv at HDE
            clear hev
            go_wp2_with fail
            refine HDE.out.mono ?_
            rintro e w3 ⟨rfl, hb3⟩
            have HB3 := hid (below_go HB2.out hb3)
            have HO3 := hid (own_below HO2.out hb3)
            have HEV3 := hid (own_below HEV2.out hb3)
            have HBW3 := hid (HBW.out.trans (hb3.mono (Nat.le_trans HB.out.size HBW.out.size)))
            clear hb3
            by_cases he2 : e2 = 0
            · subst he2
              have HB4 := hid (below_go HB3.out (below_new w3 #[.int .i64 (p : Int), .int .i64 (o : Int), .int .u64 (h : Int), .int .u64 (a : Int), .int .i64 (x : Int)] 36))
              have HBE4 := hid (HBW3.out.trans ((below_new w3 #[.int .i64 (p : Int), .int .i64 (o : Int), .int .u64 (h : Int), .int .u64 (a : Int), .int .i64 (x : Int)] 36).mono (Nat.le_trans HB.out.size HBW3.out.size)))
              have HX4 := hid (ev_new p o h a x w3)
              have HEV4 := hid (own_below HEV3.out (below_new w3 #[.int .i64 (p : Int), .int .i64 (o : Int), .int .u64 (h : Int), .int .u64 (a : Int), .int .i64 (x : Int)] 36))
              have HCH := hid (chain_any A2 r.length c2 _ d r (w3.alloc (.cells #[.int .i64 (p : Int), .int .i64 (o : Int), .int .u64 (h : Int), .int .u64 (a : Int), .int .i64 (x : Int)] 36)) rfl (Sl.of_own (own_below HO3.out (below_new w3 #[.int .i64 (p : Int), .int .i64 (o : Int), .int .u64 (h : Int), .int .u64 (a : Int), .int .i64 (x : Int)] 36))) (by unfold maxLen; omega) (Nat.le_refl _))
              have HLT := hid (chain_lt d r)
              obtain ⟨D, hD⟩ : ∃ D, D = chain d r := ⟨_, rfl⟩
              rw [← hD] at HE4' HOK' HCH HLT
              clear hD
              go_wp2_with fail
              refine HCH.out.mono ?_
              rintro e w5 ⟨rfl, hb5⟩
              have HB5 := hid (below_go HB4.out hb5)
              have HX5 := hid (ev_keep HX4.out hb5)
              have HEV5 := hid (own_below HEV4.out hb5)
              have HBE5 := hid (HBE4.out.trans (hb5.mono (Nat.le_trans HB.out.size HBE4.out.size)))
              clear hb5
              obtain ⟨t8, ht8⟩ : ∃ t8, t8 = (rest.drop s).take 8 := ⟨_, rfl⟩
              have hl8 : t8.length = 8 := by rw [ht8, List.length_take, List.length_drop, HR.out]; omega
              have hsl2 : Sl wr w.heap.size (some ⟨bl, off + s, none⟩) (bys (rest.drop s)) := by
                have h0 := HSL.out.cut (k := s) (c := c1) (by rw [bys_length, HR.out]; exact HC.out) 1 rfl
                rw [← bys_drop, Nat.mul_one, if_neg hcs] at h0
                by_cases hs0 : s = 0
                · subst hs0
                  simpa [Addr.add] using h0
                · simpa [Addr.add, hs0] using h0
              have HSLD := hid hsl2
              have HSTR := hid (show ∀ W, Below w.heap.size w5 W → (convert 38 9 (.slice (some ⟨bl, off + s, none⟩) 8 (c1 - s))).run Try.prog W = .ok (.string (strOf t8)) W from fun W hW => by
                have h1 := ((hsl2.below HBE5.out).below hW).take 8
                rw [← bys_take, ← ht8] at h1
                exact str_any h1 hl8)
              rw [← ht8] at HE4' HOK'
              have hcs0 : ¬ c1 - s = 0 := by have := HC.out; omega
              have hI8 : (8 : Int) ≤ ((c1 - s : Nat) : Int) := by have := HC.out; omega
              clear hsl2 ht8 hl8
              by_cases hd8 : t8 = leb D 8
              · subst hd8
                go_wp2_with fail
                refine wp_region_noPanic ?_
                refine wp_region_held_drew (S := fun W => (convert 38 9 (.slice (some ⟨bl, off + s, none⟩) 8 (c1 - s))).run Try.prog W = .ok (.string (strOf (leb D 8))) W) (by kernel_rfl) (HSTR.out _ (Below.refl _ _).drew) (fun hH0 => ?_)
                refine wpAnyH_take (i := 0) (v := ?_) rfl (by kernel_rfl) (by kernel_rfl) (by kernel_rfl) (fun _ _ _ h => h) (Or.inl ⟨by rfl, ?_⟩) hH0 ?_
                rotate_left
                · (intro w hSw; go_simp; try (with_reducible rfl))
                try simp only [Act.put, List.getElem_toArray, List.getElem_cons_zero, List.setIfInBounds_toArray, List.set_cons_zero, List.set_cons_succ]
                refine wpAnyH_take (i := 1) (v := ?_) rfl (by kernel_rfl) (by kernel_rfl) (by kernel_rfl) (fun _ _ _ h => h) (Or.inl ⟨by rfl, ?_⟩) hH0 ?_
                rotate_left
                · (intro w hSw; go_simp; try (with_reducible rfl))
                try simp only [Act.put, List.getElem_toArray, List.getElem_cons_zero, List.getElem_cons_succ, List.setIfInBounds_toArray, List.set_cons_zero, List.set_cons_succ]
                refine wpAnyH_take (i := 2) (v := ?_) rfl (by kernel_rfl) (by kernel_rfl) (by kernel_rfl) (fun _ _ _ h => h) (Or.inl ⟨by rfl, ?_⟩) hH0 ?_
                rotate_left
                · (intro w hSw; go_simp; try (with_reducible rfl))
                try simp only [Act.put, List.getElem_toArray, List.getElem_cons_zero, List.getElem_cons_succ, List.setIfInBounds_toArray, List.set_cons_zero, List.set_cons_succ]
                refine wpAnyH_take (i := 3) (v := ?_) rfl (by kernel_rfl) (by kernel_rfl) (by kernel_rfl) (fun _ _ _ h => h) (Or.inl ⟨by rfl, ?_⟩) hH0 ?_
                rotate_left
                · (intro w hSw; go_simp; try (with_reducible rfl))
                try simp only [Act.put, List.getElem_toArray, List.getElem_cons_zero, List.getElem_cons_succ, List.setIfInBounds_toArray, List.set_cons_zero, List.set_cons_succ]
                refine wpAnyH_ready (rs := [4]) (by kernel_rfl) (by simp) ?_
                refine AllReadyH.cons rfl (fun K hK => ?_) AllReadyH.nil
                simp only [List.getElem_toArray, List.getElem_cons_zero, List.getElem_cons_succ]
                go_simp
                refine (dbytes_any D w5.drew).mono ?_
                rintro e w6 ⟨A6, c6, rfl, ho6, hb6⟩
                have HB6 := hid (undrew hb6)
                have k6 := str_own ho6
                clear ho6 hb6
                refine hK.out _ _ (HSTR.out w6 (HB6.out.mono (by have := HBE5.out.size; have := HB5.out.size; omega))) (fun hH1 => ?_)
                clear hK K hH0
                try simp only [Act.put, List.setIfInBounds_toArray, List.set_cons_zero, List.set_cons_succ]
                refine wpAnyH_ready (rs := [5]) (by kernel_rfl) (by simp) ?_
                refine AllReadyH.cons rfl (fun K hK => ?_) AllReadyH.nil
                simp only [List.getElem_toArray, List.getElem_cons_zero, List.getElem_cons_succ]
                go_simp
                refine hK.out _ _ hH1 (fun hH2 => ?_)
                clear hK K hH1 k6
                try simp only [Act.put, List.setIfInBounds_toArray, List.set_cons_zero, List.set_cons_succ]
                refine wpAnyH_take (i := 6) (v := ?_) rfl (by kernel_rfl) (by kernel_rfl) (by kernel_rfl) (fun _ _ _ h => h) (Or.inl ⟨by rfl, ?_⟩) hH2 ?_
                rotate_left
                · (intro w hSw; go_simp; try (with_reducible rfl))
                try simp only [Act.put, List.getElem_toArray, List.getElem_cons_zero, List.getElem_cons_succ, List.setIfInBounds_toArray, List.set_cons_zero, List.set_cons_succ]
                refine wpAnyH_done (by kernel_rfl) ?_ _
                refine NoPanic.normal ?_
                clear hH2
                have HB6w := hid (HBE5.out.trans (HB6.out.mono (Nat.le_trans HB.out.size HBE5.out.size)))
                obtain ⟨⟨f0, f1, f2, f3, f4⟩, hg⟩ := ev_keep HX5.out HB6.out
                have HEV6 := hid (own_below (own_below HEV5.out HB6.out) (below_new w6 #[.int .i64 (p : Int), .int .i64 (o : Int), .int .u64 (h : Int), .int .u64 (a : Int), .int .i64 (x : Int)] 36))
                have HB6t := hid (below_go HB5.out HB6.out)
                go_wp2_with (at_builtin; refine wp_appE (by rfl) (.tmp 47) (.tmp 49) rfl w.heap.size Ao acc.length co acc rfl HEV6.out (some ⟨w6.heap.size, 0, none⟩) _ 1 (p, o, h, a, x) rfl (Sl.new w6 #[.int .i64 (p : Int), .int .i64 (o : Int), .int .u64 (h : Int), .int .u64 (a : Int), .int .i64 (x : Int)] 36 (0, 0)) (acc.length + 1) rfl (by omega) (by have := HB6t.out.size; simp; omega) ?_)
                intro A7 c7 w7 ho7 hg7
                have HB7 := hid ((HB6w.out.alloc (Nat.le_trans HB.out.size HB6w.out.size) (.cells #[.int .i64 (p : Int), .int .i64 (o : Int), .int .u64 (h : Int), .int .u64 (a : Int), .int .i64 (x : Int)] 36)).grown hg7 (by have := HB6t.out.size; simp; omega) (own_lt HEV6.out))
                have HO7 := hid ho7
                clear ho7 hg7 f0 f1 f2 f3 f4 hg
                have HRS := hid (show resL l = onto (acc ++ [(p, o, h, a, x)]) (decL f D (rest.drop (s + 8))) by
                  rw [HD.out, HOK'.out (by simp) (by simp), onto_onto])
                have HSL8 := hid (show Sl w7 w.heap.size (if c1 - s = 8 then some ⟨bl, off + s, none⟩ else some ⟨bl, off + s + 8, none⟩) (bys (rest.drop (s + 8))) by
                  have h1 := (HSLD.out.below HB7.out).cut (k := 8) (c := c1 - s) (by rw [bys_length, List.length_drop, HR.out]; have := HC.out; omega) 1 rfl
                  rw [← bys_drop, List.drop_drop] at h1
                  by_cases hc8 : c1 - s = 8
                  · rw [if_pos hc8] at h1 ⊢
                    exact h1
                  · rw [if_neg hc8] at h1 ⊢
                    simpa [Addr.add] using h1)
                have HBL := hid (HB.out.trans HB7.out)
                by_cases hc8 : c1 - s = 8
                · have hS := HSL8.out
                  rw [if_pos hc8] at hS
                  have HS8 := hid hS
                  have H88 := hid hc8
                  have hct : (c1 - s = 8) = True := eq_true hc8
                  clear hS hc8
                  go_wp2
                  go_roundw
                  case rel => exact ⟨n1 - s - 8, acc ++ [(p, o, h, a, x)], rest.drop (s + 8), D, f, _, _, A7, c7, rfl, by simp, rfl, by rw [List.length_drop, HR.out]; omega, by have := HC.out; omega, by have := HAL.out; simp; omega, HS8.out, by simpa using HO7.out, by have := HF.out; omega, HRS.out, HLT.out, HBL.out⟩
                  case measure => simp; omega
                · have hS := HSL8.out
                  rw [if_neg hc8] at hS
                  have HS8 := hid hS
                  clear hS
                  go_wp2
                  go_roundw
                  case rel => exact ⟨n1 - s - 8, acc ++ [(p, o, h, a, x)], rest.drop (s + 8), D, f, _, _, A7, c7, rfl, by simp, rfl, by rw [List.length_drop, HR.out]; omega, by have := HC.out; omega, by have := HAL.out; simp; omega, HS8.out, by simpa using HO7.out, by have := HF.out; omega, HRS.out, HLT.out, HBL.out⟩
                  case measure => simp; omega
              · have hne : ((strOf t8).toList == (strOf (leb D 8)).toList) = false := by
                  rw [strOf_toList, strOf_toList]
                  exact beq_eq_false_iff_ne.2 hd8
                have HRES := hid (show resL l = ([], 21) by rw [HD.out, HE4'.out (by simp) hd8]; exact onto_err _ _ (by decide))
                go_wp2_with fail
                refine wp_region_noPanic ?_
                refine wp_region_held_drew (S := fun W => (convert 38 9 (.slice (some ⟨bl, off + s, none⟩) 8 (c1 - s))).run Try.prog W = .ok (.string (strOf t8)) W) (by kernel_rfl) (HSTR.out _ (Below.refl _ _).drew) (fun hH0 => ?_)
                refine wpAnyH_take (i := 0) (v := ?_) rfl (by kernel_rfl) (by kernel_rfl) (by kernel_rfl) (fun _ _ _ h => h) (Or.inl ⟨by rfl, ?_⟩) hH0 ?_
                rotate_left
                · (intro w hSw; go_simp; try (with_reducible rfl))
                try simp only [Act.put, List.getElem_toArray, List.getElem_cons_zero, List.setIfInBounds_toArray, List.set_cons_zero, List.set_cons_succ]
                refine wpAnyH_take (i := 1) (v := ?_) rfl (by kernel_rfl) (by kernel_rfl) (by kernel_rfl) (fun _ _ _ h => h) (Or.inl ⟨by rfl, ?_⟩) hH0 ?_
                rotate_left
                · (intro w hSw; go_simp; try (with_reducible rfl))
                try simp only [Act.put, List.getElem_toArray, List.getElem_cons_zero, List.getElem_cons_succ, List.setIfInBounds_toArray, List.set_cons_zero, List.set_cons_succ]
                refine wpAnyH_take (i := 2) (v := ?_) rfl (by kernel_rfl) (by kernel_rfl) (by kernel_rfl) (fun _ _ _ h => h) (Or.inl ⟨by rfl, ?_⟩) hH0 ?_
                rotate_left
                · (intro w hSw; go_simp; try (with_reducible rfl))
                try simp only [Act.put, List.getElem_toArray, List.getElem_cons_zero, List.getElem_cons_succ, List.setIfInBounds_toArray, List.set_cons_zero, List.set_cons_succ]
                refine wpAnyH_take (i := 3) (v := ?_) rfl (by kernel_rfl) (by kernel_rfl) (by kernel_rfl) (fun _ _ _ h => h) (Or.inl ⟨by rfl, ?_⟩) hH0 ?_
                rotate_left
                · (intro w hSw; go_simp; try (with_reducible rfl))
                try simp only [Act.put, List.getElem_toArray, List.getElem_cons_zero, List.getElem_cons_succ, List.setIfInBounds_toArray, List.set_cons_zero, List.set_cons_succ]
                refine wpAnyH_ready (rs := [4]) (by kernel_rfl) (by simp) ?_
                refine AllReadyH.cons rfl (fun K hK => ?_) AllReadyH.nil
                simp only [List.getElem_toArray, List.getElem_cons_zero, List.getElem_cons_succ]
                go_simp
                refine (dbytes_any D w5.drew).mono ?_
                rintro e w6 ⟨A6, c6, rfl, ho6, hb6⟩
                have HB6 := hid (undrew hb6)
                have k6 := str_own ho6
                clear ho6 hb6
                refine hK.out _ _ (HSTR.out w6 (HB6.out.mono (by have := HBE5.out.size; have := HB5.out.size; omega))) (fun hH1 => ?_)
                clear hK K hH0
                try simp only [Act.put, List.setIfInBounds_toArray, List.set_cons_zero, List.set_cons_succ]
                refine wpAnyH_ready (rs := [5]) (by kernel_rfl) (by simp) ?_
                refine AllReadyH.cons rfl (fun K hK => ?_) AllReadyH.nil
                simp only [List.getElem_toArray, List.getElem_cons_zero, List.getElem_cons_succ]
                go_simp
                refine hK.out _ _ hH1 (fun hH2 => ?_)
                clear hK K hH1 k6
                try simp only [Act.put, List.setIfInBounds_toArray, List.set_cons_zero, List.set_cons_succ]
                refine wpAnyH_take (i := 6) (v := ?_) rfl (by kernel_rfl) (by kernel_rfl) (by kernel_rfl) (fun _ _ _ h => h) (Or.inl ⟨by rfl, ?_⟩) hH2 ?_
                rotate_left
                · (intro w hSw; go_simp; try (with_reducible rfl))
                try simp only [Act.put, List.getElem_toArray, List.getElem_cons_zero, List.getElem_cons_succ, List.setIfInBounds_toArray, List.set_cons_zero, List.set_cons_succ]
                refine wpAnyH_done (by kernel_rfl) ?_ _
                refine NoPanic.normal ?_
                clear hH2
                go_wp2
                rw [HRES.out]
                go_ret2
                exact ⟨none, 0, rfl, World.ownsRow_nil _ _ _ _, below_go HB5.out HB6.out⟩
            · have HRES := hid (show resL l = ([], e2) by rw [HD.out, HE3'.out he2]; exact onto_err _ _ he2)
              have he2' : ((e2 : Int) == 0) = false := by simpa using he2
              go_wp2
              rw [HRES.out]
              go_ret2
              exact ⟨none, 0, rfl, World.ownsRow_nil _ _ _ _, below_go HB3.out (below_new w3 _ _)⟩
      · have HRES := hid (show resL l = ([], e1) by rw [HD.out, HE1.out he1]; exact onto_err _ _ he1)
        have he1' : ((e1 : Int) == 0) = false := by simpa using he1
        go_wp2
        rw [HRES.out]
        go_ret2
        exact ⟨none, 0, rfl, World.ownsRow_nil _ _ _ _, HB2.out⟩
    · obtain rfl : n1 = 0 := by omega
      have hrest : rest = [] := List.eq_nil_of_length_eq_zero HR.out
      have HRES := hid (show resL l = (acc, 0) by rw [HD.out, hrest, decL_nil]; simp [onto])
      clear hrest
      go_wp2
      rw [HRES.out]
      go_ret2
      exact ⟨Ao, co, rfl, HO.out, HB.out⟩
end Go.Proofs.Ytmhmaodnkifcaaa
