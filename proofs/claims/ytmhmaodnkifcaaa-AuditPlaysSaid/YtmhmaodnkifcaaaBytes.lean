/-
  The reference's encoded, BytesOf, DigestOf.
-/
import Derived.Test.YtmhmaodnkifcaaaLogA
import Derived.Test.YtmhmaodnkifcaaaDigT
import Derived.Test.YtmhmaodnkifcaaaSameE
namespace Go.Proofs.Ytmhmaodnkifcaaa
open Go.RowKit
set_option linter.unusedSimpArgs false
set_option linter.unusedVariables false

theorem info_bs : (Try.prog.info? 38).map (fun i => (i.zero, i.size, i.bytes)) = some (some (.slice none 0 0), 1, 24) := by kernel_rfl
/-- Slices of the call's own that hold the records. -/
def OwnRows (w : World) (base : Nat) (vs : List Value) (ls : List (List UInt8)) : Prop :=
  vs.length = ls.length ∧ ∀ k, (hk : k < ls.length) → ∃ (A : Option Addr) (c : Nat), vs[k]? = some (.slice A ls[k].length c) ∧ w.ownsRow base 5 1 (.slice A ls[k].length c) ls[k].length (bys ls[k])
theorem OwnRows.below {w w' : World} {base : Nat} {vs : List Value} {ls : List (List UInt8)} (h : OwnRows w base vs ls) (hb : Below w.heap.size w w') : OwnRows w' base vs ls :=
  ⟨h.1, fun k hk => by obtain ⟨A, c, h1, h2⟩ := h.2 k hk; exact ⟨A, c, h1, own_below h2 hb⟩⟩
theorem OwnRows.rows {w : World} {base : Nat} {vs : List Value} {ls : List (List UInt8)} (h : OwnRows w base vs ls) : RowsOf w w.heap.size vs ls :=
  ⟨h.1, fun k hk => by
    obtain ⟨A, c, h1, h2⟩ := h.2 k hk
    obtain ⟨A', c', hv, h3, h4⟩ := own_form h2
    injection hv with e1 e2 e3
    subst e1; subst e3
    exact ⟨A, c, h1, h3, h4, Sl.of_own h2⟩⟩
theorem OwnRows.snoc {w w' : World} {base n c k : Nat} {A : Option Addr} {vs xs : List Value} {ls : List (List UInt8)} {e : TypeId} {l : List UInt8} {A2 : Option Addr} {c2 : Nat} (h : OwnRows w base vs ls) (hrow : w.ownsRow base 38 1 (.slice A n c) n xs)
    (hnew : w.ownsRow base 5 1 (.slice A2 l.length c2) l.length (bys l)) (hg : w.grownBy w' (Value.slice A n c).ownBlock) : OwnRows w' base (vs ++ [.slice A2 l.length c2]) (ls ++ [l]) := by
  have keep : ∀ {b m c : Nat} {A : Option Addr} {l : List UInt8}, w.ownsRow base 5 1 (.slice A m c) m (bys l) → w'.ownsRow base 5 1 (.slice A m c) m (bys l) := fun h =>
    own_kept h fun b hb => hg.block b (h.lt b hb).2 (fun e => own_apart_t hrow h (by decide) b e.symm hb)
  refine ⟨by simp [h.1], fun i hi => ?_⟩
  by_cases hik : i < ls.length
  · obtain ⟨A, c, h1, h2⟩ := h.2 i hik
    rw [List.getElem_append_left hik]
    exact ⟨A, c, by rw [List.getElem?_append_left (by rw [h.1]; exact hik)]; exact h1, keep (b := 0) h2⟩
  · obtain rfl : i = ls.length := by simp at hi; omega
    rw [List.getElem_append_right (Nat.le_refl _)]
    simp only [Nat.sub_self, List.getElem_cons_zero]
    exact ⟨A2, c2, by rw [← h.1]; simp, keep (b := 0) hnew⟩
/-- What encoded returns. -/
def EncMade (w : World) (n : Nat) (es : List Ev) (e : Ending) (w' : World) : Prop :=
  ∃ (A : Option Addr) (c : Nat) (vs : List Value), e = .returned (.slice A n c) ∧ w'.ownsRow w.heap.size 38 1 (.slice A n c) n vs ∧ OwnRows w' w.heap.size vs (es.map encV) ∧ Below w.heap.size w w'
set_option maxRecDepth 100000 in
set_option maxHeartbeats 1000000 in
theorem encoded_any (A : Option Addr) (n c B : Nat) (es : List Ev) (w : World) (hn : es.length = n) (hs : Sl w B A (evs es)) (hB : B ≤ w.heap.size) (hr : ∀ e ∈ es, Right e) (hm : n ≤ 1000) :
    Calls Try.prog 60 #[.slice A n c] w (EncMade w n es) := by
  have HN := hid hn
  have HS := hid hs
  have HR := hid hr
  clear hn hs hr
  go_enter Try.func60, Try.ntmps60
  go_wp2_with fail
  go_loopw [3, 4] (fun v i wr => ∃ (k : Nat) (A' : Option Addr) (c' : Nat) (vs : List Value), k ≤ n ∧ i = .int .i64 k ∧ v = .slice A' k c' ∧ wr.ownsRow w.heap.size 38 1 (.slice A' k c') k vs ∧ OwnRows wr w.heap.size vs ((es.take k).map encV) ∧ Below w.heap.size w wr) (fun _ i _ => n - (intOf i).toNat)
  case atStart => exact ⟨0, none, 0, [], Nat.zero_le _, rfl, rfl, World.ownsRow_nil _ _ _ _, ⟨rfl, fun k hk => by simp at hk⟩, Below.refl _ _⟩
  case round =>
    obtain ⟨k, A', c', vs, hk, rfl, rfl, hown, hrows, hb⟩ := hrel
    have HB := hid hb
    have HOW := hid hown
    have HRW := hid hrows
    clear hb hown hrows
    by_cases hlt : k < n
    · have hk' : k < es.length := by rw [HN.out]; exact hlt
      obtain ⟨b, off, rfl, hbl, q0, q1, q2, q3, q4⟩ := sl_ev (HS.out.keep fun p hp => HB.out.cell (Nat.lt_of_lt_of_le hp hB)) hk'
      have HRI := hid (HR.out _ (List.getElem_mem hk'))
      have HST := hid (show es.take (k + 1) = es.take k ++ [es[k]] from List.take_succ_eq_append_getElem hk')
      obtain ⟨⟨p, o, h, a, x⟩, hev⟩ : ∃ v, es[k] = v := ⟨_, rfl⟩
      rw [hev] at q0 q1 q2 q3 q4 HRI HST
      simp only at q0 q1 q2 q3 q4
      have HEN := hid (rencode_yes p o h a x wr HRI.out.1 HRI.out.2.1 HRI.out.2.2)
      unfold evv at HEN
      clear hev
      go_wp2_with fail
      clear q0 q1 q2 q3 q4
      refine HEN.out.mono ?_
      rintro e w2 ⟨A2, c2, rfl, ho2, hb2⟩
      obtain ⟨l, hl⟩ : ∃ l, l = encE p o h a x := ⟨_, rfl⟩
      rw [← hl] at ho2 ⊢
      have HL := hid hl
      clear hl HEN
      have hbn := below_new w2 #[.slice A2 l.length c2] 38
      have HB2 := hid (below_go (below_go HB.out hb2) hbn)
      have HO2 := hid (own_below (own_base ho2 HB.out.size) hbn)
      have HW2 := hid (own_below (own_below HOW.out hb2) hbn)
      have HR2 := hid ((HRW.out.below hb2).below hbn)
      have hsz := HB2.out.size
      clear ho2 hb2 hbn
      go_wp2_with (at_builtin; refine wp_app1 Try.underlying46 info_bs (by rfl) (by decide) (by rfl) (.tmp 21) (.tmp 23) rfl w.heap.size A' k c' vs rfl HW2.out (some ⟨w2.heap.size, 0, none⟩) _ 1 1 [.slice A2 l.length c2] rfl rfl (Sl.new w2 _ _ _) (by simp [Value.oneCell']) (k + 1) rfl (by omega) hsz ?_)
      intro A4 c4 w4 ho4 hg4 hb4
      have HO4 := hid ho4
      have HR4 := hid (HR2.out.snoc (e := 0) (k := 0) HW2.out HO2.out hg4)
      have HB4 := hid (below_app HB2.out HW2.out (Nat.le_refl _) hg4)
      clear ho4 hg4 hb4 hsz
      go_wp2_with fail
      go_roundw
      case rel => exact ⟨k + 1, A4, c4, _, by omega, by go_num, rfl, HO4.out, by rw [HST.out, List.map_append]; have := HR4.out; rw [HL.out] at this ⊢; exact this, HB4.out⟩
      case measure => simp [intOf]; omega
    · obtain rfl : n = k := by omega
      have hall : es.take n = es := by rw [← HN.out]; simp
      have HAL := hid hall
      clear hall
      go_wp2_with fail
      go_ret
      exact ⟨A', c', vs, rfl, HOW.out, by have := HRW.out; rw [HAL.out] at this; exact this, HB.out⟩
theorem digs_get (ls : List (List UInt8)) : ∀ (d k : Nat), k < ls.length → (digs d ls)[k]? = some (lastd d (ls.take (k + 1))) := by
  induction ls with
  | nil => intro d k h; simp at h
  | cons r rs ih =>
    intro d k h
    cases k with
    | zero => simp [digs, lastd_cons, lastd_nil]
    | succ k =>
      rw [List.take_succ_cons, lastd_cons]
      simp only [digs, List.getElem?_cons_succ]
      exact ih _ k (by simpa using h)
theorem short_enc (es : List Ev) (hr : ∀ e ∈ es, Right e) (hm : es.length ≤ 1000) : Short (es.map encV) := by
  refine ⟨by simpa using hm, fun r h => ?_⟩
  obtain ⟨e, he, rfl⟩ := List.mem_map.1 h
  have := encV_short e (hr e he)
  omega
set_option maxRecDepth 100000 in
set_option maxHeartbeats 2000000 in
theorem bytesof_any (A : Option Addr) (n c B : Nat) (es : List Ev) (w : World) (hn : es.length = n) (hs : Sl w B A (evs es)) (hB : B ≤ w.heap.size) (hr : ∀ e ∈ es, Right e) (hm : n ≤ 1000) :
    Calls Try.prog 31 #[.slice A n c] w (OwnBytes w (logB fStart es) (logB fStart es).length) := by
  have HN := hid hn
  have HR := hid hr
  have HEN := hid (encoded_any A n c B es w hn hs hB hr hm)
  have HSH := hid (short_enc es hr (by omega))
  clear hn hs hr
  go_enter Try.func31, Try.ntmps31
  go_wp2_with fail
  refine HEN.out.mono ?_
  rintro e w1 ⟨A1, c1, vs, rfl, ho1, hr1, hb1⟩
  have HO1 := hid ho1
  have HR1 := hid hr1
  have HB1 := hid hb1
  have HDG := hid (rdigests_any A1 n c1 _ vs (es.map encV) w1 (by rw [List.length_map]; exact HN.out) (Sl.of_own ho1) hr1.rows (Nat.le_refl _) HSH.out)
  clear ho1 hr1 hb1 HEN
  go_wp2_with fail
  refine HDG.out.mono ?_
  rintro e w2 ⟨A2, c2, rfl, ho2, hb2⟩
  have HO2 := hid (own_below HO1.out hb2)
  have HR2 := hid (HR1.out.below hb2)
  have HD2 := hid ho2
  have HB2 := hid (below_go HB1.out hb2)
  clear ho2 hb2 HDG HO1 HR1
  go_wp2_with fail
  go_loopw [5, 6] (fun v i wr => ∃ (k : Nat) (A' : Option Addr) (c' : Nat), k ≤ n ∧ i = .int .i64 k ∧ v = .slice A' (logB fStart (es.take k)).length c' ∧ wr.ownsRow w2.heap.size 5 1 (.slice A' (logB fStart (es.take k)).length c') (logB fStart (es.take k)).length (bys (logB fStart (es.take k))) ∧ Below w2.heap.size w2 wr) (fun _ i _ => n - (intOf i).toNat)
  case atStart => exact ⟨0, none, 0, Nat.zero_le _, rfl, rfl, World.ownsRow_nil _ _ _ _, Below.refl _ _⟩
  case round =>
    obtain ⟨k, A', c', hk, rfl, rfl, hown, hb⟩ := hrel
    have HB := hid hb
    have HOW := hid hown
    clear hb hown
    by_cases hlt : k < n
    · have hk' : k < es.length := by rw [HN.out]; exact hlt
      have HLL := hid (show (logB fStart (es.take k)).length ≤ 70000 by
        have := logB_len (es.take k) fStart (fun e he => HR.out e (List.mem_of_mem_take he))
        rw [List.length_take] at this
        omega)
      obtain ⟨Ae, ce, hve, howe⟩ := (HR2.out.below HB.out).2 k (by rw [List.length_map]; exact hk')
      rw [List.getElem_map] at hve howe
      have hrowr := own_below HO2.out HB.out
      obtain ⟨gr, hAr, _, _⟩ := own_at hrowr (by omega)
      subst hAr
      have hc1 := hrowr.cellAt (g := gr) k (by omega)
      rw [hve] at hc1
      have hrowd := own_below HD2.out HB.out
      obtain ⟨gd, hAd, _, _⟩ := own_at hrowd (by omega)
      subst hAd
      have hc2 := hrowd.cellAt (g := gd) k (by omega)
      have hdk := digs_get (es.map encV) fStart k (by rw [List.length_map]; exact hk')
      rw [show (dnums (digs fStart (es.map encV)))[k]? = some (.int .u64 (lastd fStart ((es.map encV).take (k + 1)) : Nat)) by simp [dnums, nums, hdk]] at hc2
      have HRI := hid (HR.out _ (List.getElem_mem hk'))
      have hsh := encV_short _ HRI.out
      have HST := hid (show logB fStart (es.take (k + 1)) = logB fStart (es.take k) ++ encB (encV es[k]) ++ leb (lastd fStart ((es.map encV).take (k + 1))) 8 by
        rw [← List.take_append_getElem hk', logB_snoc, recB, List.append_assoc]
        congr 3
        rw [← List.map_take, ← List.take_append_getElem hk', List.map_append, List.map_cons, List.map_nil, lastd_snoc]
        rfl)
      obtain ⟨l, hl⟩ : ∃ l, l = encV es[k] := ⟨_, rfl⟩
      obtain ⟨D, hD⟩ : ∃ D, D = lastd fStart ((es.map encV).take (k + 1)) := ⟨_, rfl⟩
      obtain ⟨lb, hlb⟩ : ∃ lb, lb = logB fStart (es.take k) := ⟨_, rfl⟩
      rw [← hl] at hc1 howe hsh HST
      rw [← hD] at hc2 HST
      rw [← hlb] at HOW HLL HST ⊢
      have hlb7 := HLL.out
      have hel2 := encB_len l (by omega)
      have HOE := hid howe
      clear hl hD hlb hrowr hrowd hve howe hdk HLL
      obtain ⟨v0, hv0⟩ : ∃ v0, v0 = wr := ⟨_, rfl⟩
      rw [← hv0] at HB HOW HOE hc1 hc2 ⊢
      clear hv0
      have HPB := hid (rputB_any A' Ae lb.length c' v0.drew.heap.size l.length ce lb l v0.drew rfl (Sl.of_own HOW.out) (Nat.le_refl _) (by omega) rfl (Sl.of_own HOE.out) (by omega))
      go_wp2_with fail
      refine wp_region_noPanic ?_
      refine AnyJ.start (S := (fun W => W.cell? ⟨gr, k, none⟩ = some (.slice Ae l.length ce) ∧ W.cell? ⟨gd, k, none⟩ = some (.int .u64 D))) (J := 12) (by kernel_rfl) ⟨hc1, hc2⟩ (fun hH0 => ?_)
      refine AnyJ.take (i := 0) (v := ?_) (T := [5, 11, 12]) rfl (by kernel_rfl) (by kernel_rfl) (by kernel_rfl) (by kernel_rfl) (fun _ _ _ h => h) (Or.inl ⟨by rfl, ?_⟩) hH0 ?_
      rotate_left
      · (intro w hSw; (try dsimp only at hSw); go_simp; try (with_reducible rfl))
      try simp only [Act.put, List.getElem_toArray, List.getElem_cons_zero, List.setIfInBounds_toArray, List.set_cons_zero, List.set_cons_succ]
      refine AnyJ.take (i := 1) (v := ?_) (T := [3, 4, 5, 11, 12]) rfl (by kernel_rfl) (by kernel_rfl) (by kernel_rfl) (by kernel_rfl) (fun _ _ _ h => h) (Or.inl ⟨by rfl, ?_⟩) hH0 ?_
      rotate_left
      · (intro w hSw; (try dsimp only at hSw); go_simp; try (with_reducible rfl))
      try simp only [Act.put, List.getElem_toArray, List.getElem_cons_zero, List.getElem_cons_succ, List.setIfInBounds_toArray, List.set_cons_zero, List.set_cons_succ]
      refine AnyJ.take (i := 2) (v := ?_) (T := [3, 4, 5, 11, 12]) rfl (by kernel_rfl) (by kernel_rfl) (by kernel_rfl) (by kernel_rfl) (fun _ _ _ h => h) (Or.inl ⟨by rfl, ?_⟩) hH0 ?_
      rotate_left
      · (intro w hSw; (try dsimp only at hSw); go_simp; try (with_reducible rfl))
      try simp only [Act.put, List.getElem_toArray, List.getElem_cons_zero, List.getElem_cons_succ, List.setIfInBounds_toArray, List.set_cons_zero, List.set_cons_succ]
      refine AnyJ.take (i := 3) (v := ?_) (T := [4, 5, 11, 12]) rfl (by kernel_rfl) (by kernel_rfl) (by kernel_rfl) (by kernel_rfl) (fun _ _ _ h => h) (Or.inl ⟨by rfl, ?_⟩) hH0 ?_
      rotate_left
      · (intro w hSw; (try dsimp only at hSw); go_simp; try (with_reducible rfl))
      try simp only [Act.put, List.getElem_toArray, List.getElem_cons_zero, List.getElem_cons_succ, List.setIfInBounds_toArray, List.set_cons_zero, List.set_cons_succ]
      refine AnyJ.take (i := 4) (v := ?_) (T := [5, 11, 12]) rfl (by kernel_rfl) (by kernel_rfl) (by kernel_rfl) (by kernel_rfl) (fun _ _ _ h => h) (Or.inl ⟨by rfl, ?_⟩) hH0 ?_
      rotate_left
      · (intro w hSw; (try dsimp only at hSw); go_simp; try (with_reducible rfl))
      try simp only [Act.put, List.getElem_toArray, List.getElem_cons_zero, List.getElem_cons_succ, List.setIfInBounds_toArray, List.set_cons_zero, List.set_cons_succ]
      refine AnyJ.take (i := 6) (v := ?_) (T := [8, 9, 10, 11, 12]) rfl (by kernel_rfl) (by kernel_rfl) (by kernel_rfl) (by kernel_rfl) (fun _ _ _ h => h) (Or.inl ⟨by rfl, ?_⟩) hH0 ?_
      rotate_left
      · (intro w hSw; (try dsimp only at hSw); go_simp; try (with_reducible rfl))
      try simp only [Act.put, List.getElem_toArray, List.getElem_cons_zero, List.getElem_cons_succ, List.setIfInBounds_toArray, List.set_cons_zero, List.set_cons_succ]
      refine AnyJ.take (i := 7) (v := ?_) (T := [8, 9, 10, 11, 12]) rfl (by kernel_rfl) (by kernel_rfl) (by kernel_rfl) (by kernel_rfl) (fun _ _ _ h => h) (Or.inl ⟨by rfl, ?_⟩) hH0 ?_
      rotate_left
      · (intro w hSw; (try dsimp only at hSw); go_simp; try (with_reducible rfl))
      try simp only [Act.put, List.getElem_toArray, List.getElem_cons_zero, List.getElem_cons_succ, List.setIfInBounds_toArray, List.set_cons_zero, List.set_cons_succ]
      refine AnyJ.take (i := 8) (v := ?_) (T := [9, 10, 11, 12]) rfl (by kernel_rfl) (by kernel_rfl) (by kernel_rfl) (by kernel_rfl) (fun _ _ _ h => h) (Or.inl ⟨by rfl, ?_⟩) hH0 ?_
      rotate_left
      · (intro w hSw; (try dsimp only at hSw); go_simp; try (with_reducible rfl))
      try simp only [Act.put, List.getElem_toArray, List.getElem_cons_zero, List.getElem_cons_succ, List.setIfInBounds_toArray, List.set_cons_zero, List.set_cons_succ]
      refine AnyJ.take (i := 9) (v := ?_) (T := [10, 11, 12]) rfl (by kernel_rfl) (by kernel_rfl) (by kernel_rfl) (by kernel_rfl) (fun _ _ _ h => h) (Or.inl ⟨by rfl, ?_⟩) hH0 ?_
      rotate_left
      · (intro w hSw; (try dsimp only at hSw); go_simp; try (with_reducible rfl))
      try simp only [Act.put, List.getElem_toArray, List.getElem_cons_zero, List.getElem_cons_succ, List.setIfInBounds_toArray, List.set_cons_zero, List.set_cons_succ]
      refine AnyJ.one (i := 5) (by kernel_rfl) rfl (fun K hK => ?_)
      simp only [List.getElem_toArray, List.getElem_cons_zero, List.getElem_cons_succ]
      go_simp
      refine HPB.out.mono ?_
      rintro e w3 ⟨A3, c3, rfl, ho3, hb3⟩
      have hs3 := cell_go hH0.1 hb3
      have hd3 := cell_go hH0.2 hb3
      have HB3 := hid (undrew hb3)
      have HO3 := hid ho3
      clear ho3 hb3
      refine hK.out _ _ ⟨hs3, hd3⟩ (fun hH1 => ?_)
      clear hK K hH0
      try simp only [Act.put, List.setIfInBounds_toArray, List.set_cons_zero, List.set_cons_succ]
      refine AnyJ.one (i := 10) (by kernel_rfl) rfl (fun K hK => ?_)
      simp only [List.getElem_toArray, List.getElem_cons_zero, List.getElem_cons_succ]
      go_simp
      refine (eight_any D w3).mono ?_
      rintro e w4 ⟨A4, c4, rfl, ho4, hb4⟩
      have hs4 := cell_go hH1.1 hb4
      have hd4 := cell_go hH1.2 hb4
      have HB4 := hid (below_go HB3.out hb4)
      have HO4 := hid (own_below HO3.out hb4)
      have HE4 := hid ho4
      clear ho4 hb4
      refine hK.out _ _ ⟨hs4, hd4⟩ (fun hH2 => ?_)
      clear hK K hH1
      try simp only [Act.put, List.setIfInBounds_toArray, List.set_cons_zero, List.set_cons_succ]
      refine AnyJ.one (i := 11) (by kernel_rfl) rfl (fun K hK => ?_)
      simp only [List.getElem_toArray, List.getElem_cons_zero, List.getElem_cons_succ]
      rw [if_pos (by rfl)]
      refine wpo_app8 (.tmp 22) (.tmp 27) rfl v0.heap.size A3 (lb.length + (encB l).length) c3 (lb ++ encB l) rfl HO4.out A4 w4.heap.size 8 c4 (leb D 8) rfl (leb_length _ _) (Sl.of_own HE4.out) _ rfl (by omega) HB4.out.size ?_
      intro A5 c5 w5 ho5 hg5 hb5
      have HB5 := hid (below_app HB4.out HO4.out (Nat.le_refl _) hg5)
      have hs5 := cell_go hc1 HB5.out
      have hd5 := cell_go hc2 HB5.out
      have HO5 := hid ho5
      clear ho5 hg5 hb5
      refine hK.out _ _ ⟨hs5, hd5⟩ (fun hH3 => ?_)
      clear hK K hH2
      try simp only [Act.put, List.setIfInBounds_toArray, List.set_cons_zero, List.set_cons_succ]
      refine AnyJ.last (by kernel_rfl) rfl (fun K hK => ?_)
      simp only [List.getElem_toArray, List.getElem_cons_zero, List.getElem_cons_succ]
      go_simp
      refine hK.out _ _ ?_
      clear hK K
      try simp only [Act.put, List.setIfInBounds_toArray, List.set_cons_zero, List.set_cons_succ]
      refine AnyJ.done (by kernel_rfl) ?_ _
      refine NoPanic.normal ?_
      clear hH3 hc1 hc2 hs5 hd5
      go_wp2_with fail
      have HLN := hid (show (logB fStart (es.take (k + 1))).length = lb.length + (encB l).length + 8 by rw [HST.out]; simp [leb_length]; omega)
      have HF5 := hid (show w5.ownsRow w2.heap.size 5 1 (.slice A5 (lb.length + (encB l).length + 8) c5) (lb.length + (encB l).length + 8) (bys (logB fStart (es.take (k + 1)))) by rw [HST.out]; exact own_base HO5.out HB.out.size)
      have HBW := hid (below_go HB.out HB5.out)
      go_roundw
      case rel => exact ⟨k + 1, A5, c5, by omega, by go_num, by rw [HLN.out], by rw [HLN.out]; exact HF5.out, HBW.out⟩
      case measure => simp [intOf]; omega
    · obtain rfl : n = k := by omega
      have hall : es.take n = es := by rw [← HN.out]; simp
      rw [hall] at HOW ⊢
      clear hall
      go_wp2_with fail
      go_ret
      exact ⟨A', c', rfl, own_base HOW.out HB2.out.size, below_go HB2.out HB.out⟩
set_option maxRecDepth 100000 in
set_option maxHeartbeats 1000000 in
theorem digestof_any (A : Option Addr) (n c B : Nat) (es : List Ev) (w : World) (hn : es.length = n) (hs : Sl w B A (evs es)) (hB : B ≤ w.heap.size) (hr : ∀ e ∈ es, Right e) (hm : n ≤ 1000) :
    Calls Try.prog 58 #[.slice A n c] w fun e w' => e = .returned (.int .u64 (endD fStart es)) ∧ Below w.heap.size w w' := by
  have HN := hid hn
  have HEN := hid (encoded_any A n c B es w hn hs hB hr hm)
  have HSH := hid (short_enc es hr (by omega))
  clear hn hs hr
  go_enter Try.func58, Try.ntmps58
  go_wp2_with fail
  refine HEN.out.mono ?_
  rintro e w1 ⟨A1, c1, vs, rfl, ho1, hr1, hb1⟩
  have HB1 := hid hb1
  have HDG := hid (rdigests_any A1 n c1 _ vs (es.map encV) w1 (by rw [List.length_map]; exact HN.out) (Sl.of_own ho1) hr1.rows (Nat.le_refl _) HSH.out)
  clear ho1 hr1 hb1 HEN
  go_wp2_with fail
  refine HDG.out.mono ?_
  rintro e w2 ⟨A2, c2, rfl, ho2, hb2⟩
  have HB2 := hid (below_go HB1.out hb2)
  by_cases h0 : n = 0
  · subst h0
    have hes : es = [] := List.eq_nil_of_length_eq_zero HN.out
    have HE := hid (show endD fStart es = fnv fStart [] by rw [hes, fnv_nil]; rfl)
    clear ho2 hb2 hes HDG
    go_wp2_with fail
    refine (rsum_any none 0 0 0 [] w2 rfl (.inl rfl) (by decide)).mono ?_
    rintro e w3 ⟨rfl, rfl⟩
    go_wp2_with fail
    go_ret
    exact ⟨by rw [HE.out]; rfl, HB2.out⟩
  · obtain ⟨gd, hAd, _, _⟩ := own_at ho2 (by omega)
    subst hAd
    have hc2 := ho2.cellAt (g := gd) (n - 1) (by omega)
    have hdk := digs_get (es.map encV) fStart (n - 1) (by rw [List.length_map, HN.out]; omega)
    have HE := hid (show endD fStart es = lastd fStart ((es.map encV).take (n - 1 + 1)) by
      rw [show n - 1 + 1 = n by omega, ← HN.out, ← List.length_map (f := encV), List.take_length]; rfl)
    rw [show (dnums (digs fStart (es.map encV)))[n - 1]? = some (.int .u64 (lastd fStart ((es.map encV).take (n - 1 + 1)) : Nat)) by simp [dnums, nums, hdk], ← HE.out] at hc2
    have hw : wrap64 ((n : Int) - 1) = ((n - 1 : Nat) : Int) := by unfold wrap64; omega
    have hn1 : (0 : Int) ≤ (n : Int) - 1 := by omega
    have hni : ((n : Int) - 1).toNat = n - 1 := by omega
    have h0' : ¬ (n : Int) = 0 := by omega
    clear ho2 hb2 hdk HDG
    go_wp2_with fail
    go_ret
    exact ⟨rfl, HB2.out⟩
end Go.Proofs.Ytmhmaodnkifcaaa
