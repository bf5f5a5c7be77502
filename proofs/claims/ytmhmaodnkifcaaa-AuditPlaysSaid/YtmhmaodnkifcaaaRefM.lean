/-
  The reference's Log: where it lies; Records, Missed, Room, Append.
-/
import Derived.Test.YtmhmaodnkifcaaaLogB
import Derived.Test.YtmhmaodnkifcaaaSameE
namespace Go.Proofs.Ytmhmaodnkifcaaa
open Go.RowKit
set_option linter.unusedSimpArgs false
set_option linter.unusedVariables false

/-- Two operations may come up. -/
theorem AnyJ.two {P : Program} {ops : Array Oper} {Q : Exit → Act → World → Prop} {md : Region.Mode} {S : World → Prop} {J : Nat} {i j : Nat} {o o2 : Oper} {fuel : Nat} {listed : Array Bool} {a : Act} {w : World} (hr : Region.ready md ops listed = [i, j]) (ho : ops[i]? = some o) (ho2 : ops[j]? = some o2)
    (h : ∀ K' : Act → World → Prop, Shut (∀ a w, S w → (S w → AnyJ P md ops Q S J fuel (listed.setIfInBounds i true) a w) → K' a w) → if Region.wanted o (yielded ops a.tmps) = true then Oper.wp P o a w K' Q else K' (a.put o.dst undef) w)
    (h2 : ∀ K' : Act → World → Prop, Shut (∀ a w, S w → (S w → AnyJ P md ops Q S J fuel (listed.setIfInBounds j true) a w) → K' a w) → if Region.wanted o2 (yielded ops a.tmps) = true then Oper.wp P o2 a w K' Q else K' (a.put o2.dst undef) w) :
    AnyJ P md ops Q S J (fuel + 1) listed a w :=
  ⟨fun h0 => (by rw [h0] at hr; cases hr), fun k hk => by
    rw [hr] at hk
    simp at hk
    rcases hk with rfl | rfl
    · exact wpOp_step ho (fun K' hK => h K' (fun a w hS hW => hK a w ⟨.inr hS, hW hS⟩))
    · exact wpOp_step ho2 (fun K' hK => h2 K' (fun a w hS hW => hK a w ⟨.inr hS, hW hS⟩))⟩
theorem wpo_appEs {w : World} {o : Oper} {a : Act} {K : Act → World → Prop} {Q : Exit → Act → World → Prop} (s x : Operand)
    (ho : o.op = .call { callee := .builtin .append, args := #[s, x], argTypes := #[24, 24] })
    (base : Nat) (A1 : Option Addr) (n c1 : Nat) (es : List Ev) (hs : a.eval s = .slice A1 n c1) (hown : w.ownsRow base 36 5 (.slice A1 n c1) n (evs es))
    (A2 : Option Addr) (B m c2 : Nat) (fs : List Ev) (hx : a.eval x = .slice A2 m c2) (hl : fs.length = m) (hsl : Sl w B A2 (evs fs)) (N : Nat) (hN : n + m = N) (hb : N ≤ 1000000) (hbase : base ≤ w.heap.size)
    (h : ∀ A' c' w', w'.ownsRow base 36 5 (.slice A' N c') N (evs (es ++ fs)) → w.grownBy w' (Value.slice A1 n c1).ownBlock → ((Value.slice A' N c').ownBlock = (Value.slice A1 n c1).ownBlock ∨ (Value.slice A' N c').ownBlock = some w.heap.size) →
      K (a.put o.dst (.slice A' N c')) w') : o.wp Try.prog a w K Q := by
  subst hN
  obtain ⟨i0, hi, hz0, hz1, hz2⟩ := info_parts info_ev
  refine wp_app s x 24 ho base 36 i0 _ 5 40 Try.underlying24 hi hz0 hz1 hz2 rfl (by decide) _ n _ hs hown A2 B m c2 (evs fs) hx (by rw [evs_len, hl]) hsl (fun u hu => ?_) (by unfold maxLen; omega) (by omega) hbase ?_
  · obtain ⟨e, _, he⟩ := List.mem_flatMap.1 hu
    exact evc_one e u he
  · intro A' c' w' h1 h2 h3
    rw [← evs_append] at h1
    exact h A' c' w' h1 h2 h3
theorem own_emptyE (w : World) (base : Nat) (hb : base ≤ w.heap.size) : (w.alloc (.cells #[] 36)).ownsRow base 36 5 (.slice (some ⟨w.heap.size, 0, none⟩) 0 0) 0 (evs []) :=
  World.ownsRow_made w #[] 0 hb (Nat.zero_le _) (by simp)
theorem sl_blkE {w : World} {g p o h a x : Nat} (hb : Blk w g #[.int .i64 (p : Int), .int .i64 (o : Int), .int .u64 (h : Int), .int .u64 (a : Int), .int .i64 (x : Int)] 36) : Sl w (g + 1) (some ⟨g, 0, none⟩) (evs [(p, o, h, a, x)]) := by
  refine .inr ⟨g, 0, rfl, by omega, fun j u hu => ?_⟩
  rw [Nat.zero_add]
  refine hb.cell j ?_
  simpa [evs, evc] using hu
/-- A slice that reads as a list, its block among G. -/
def SlG (w : World) (G : Nat → Prop) (A : Option Addr) (xs : List Value) : Prop := xs = [] ∨ ∃ b off, A = some ⟨b, off, none⟩ ∧ G b ∧ ∀ j u, xs[j]? = some u → w.cell? ⟨b, off + j, none⟩ = some u
/-- The reference's log in block g; its blocks are among G. -/
def RefAt (w : World) (G : Nat → Prop) (g cap : Nat) (es : List Ev) (ms : List Int) : Prop :=
  ∃ (AL : Option Addr) (cL : Nat) (AM : Option Addr) (cM : Nat), Blk w g #[.int .i64 cap, .slice AL es.length cL, .slice AM ms.length cM] 65 ∧ SlG w G AL (evs es) ∧ SlG w G AM (nums .i64 ms) ∧ es.length ≤ cL ∧ ms.length ≤ cM ∧ G g ∧ ∀ b, G b → b < w.heap.size
section
variable {w w' : World} {G : Nat → Prop} {g cap : Nat} {es : List Ev} {ms : List Int} {A : Option Addr} {xs : List Value}
theorem SlG.sl (h : SlG w G A xs) (hG : ∀ b, G b → b < w.heap.size) : Sl w w.heap.size A xs := by
  rcases h with h | ⟨b, off, h1, h2, h3⟩
  · exact .inl h
  · exact .inr ⟨b, off, h1, hG b h2, h3⟩
theorem SlG.kept (h : SlG w G A xs) (hk : ∀ b, G b → w'.heap[b]? = w.heap[b]?) : SlG w' G A xs := by
  rcases h with h | ⟨b, off, h1, h2, h3⟩
  · exact .inl h
  · exact .inr ⟨b, off, h1, h2, fun j u hu => (World.cell?_of_block (a := ⟨b, off + j, none⟩) (hk b h2)).trans (h3 j u hu)⟩
theorem SlG.more {G' : Nat → Prop} (h : SlG w G A xs) (hG : ∀ b, G b → G' b) : SlG w G' A xs := by
  rcases h with h | ⟨b, off, h1, h2, h3⟩
  · exact .inl h
  · exact .inr ⟨b, off, h1, hG b h2, h3⟩
theorem RefAt.kept (h : RefAt w G g cap es ms) (hk : ∀ b, G b → w'.heap[b]? = w.heap[b]?) (hs : w.heap.size ≤ w'.heap.size) : RefAt w' G g cap es ms := by
  obtain ⟨AL, cL, AM, cM, hb, h1, h2, h3, h4, h5, h6⟩ := h
  exact ⟨AL, cL, AM, cM, (hk g h5).trans hb, h1.kept hk, h2.kept hk, h3, h4, h5, fun b hb => Nat.lt_of_lt_of_le (h6 b hb) hs⟩
theorem RefAt.below (h : RefAt w G g cap es ms) (hb : Below w.heap.size w w') : RefAt w' G g cap es ms :=
  h.kept (fun b hG => hb.block b (by obtain ⟨_, _, _, _, _, _, _, _, _, _, h6⟩ := h; exact h6 b hG)) hb.size
theorem RefAt.lt (h : RefAt w G g cap es ms) : ∀ b, G b → b < w.heap.size := by obtain ⟨_, _, _, _, _, _, _, _, _, _, h6⟩ := h; exact h6
/-- What a step of the reference hands on. -/
def RefStep (w : World) (G : Nat → Prop) (g cap : Nat) (es : List Ev) (ms : List Int) (w' : World) : Prop :=
  ∃ G', RefAt w' G' g cap es ms ∧ Turn (fun k => k = g) w w' ∧ ∀ k, G' k → G k ∨ w.heap.size ≤ k
/-- A row of the call's own, laid into a field. -/
theorem own_slG {base n c size : Nat} {e : TypeId} (h : w.ownsRow base e size (.slice A n c) n xs) : SlG w (fun b => (Value.slice A n c).ownBlock = some b) A xs := by
  rcases h.2 with ⟨hv, hn⟩ | ⟨b, cap, cur, hv, hb, hg, _⟩
  · exact .inl (List.eq_nil_of_length_eq_zero (by rw [h.1, hn]; simp))
  · injection hv with hA
    subst hA
    refine .inr ⟨b, 0, rfl, rfl, fun j u hu => ?_⟩
    have := h.cells (g := b) rfl j u hu
    rwa [Addr.add_lit] at this
theorem RefAt.pushed {w3 v : World} {es' : List Ev} {A9 : Option Addr} {n9 c9 : Nat} (h : RefAt w G g cap es ms) (hb : Below w.heap.size w w3) (hv : Below w3.heap.size w3 v) (ho : v.ownsRow w3.heap.size 36 5 (.slice A9 n9 c9) n9 (evs es')) (hn : es'.length = n9 := by simp) :
    RefStep w G g cap es' ms (v.setCell ⟨g, 1, none⟩ (.slice A9 n9 c9)) := by
  subst hn
  have hlt := h.lt
  obtain ⟨AL, cL, AM, cM, hbk, h1, h2, h3, h4, h5, h6⟩ := h.below (below_go hb hv)
  have hgl := hlt g h5
  have hs := hb.size
  have hs2 := hv.size
  have ne : ∀ b, (Value.slice A9 es'.length c9).ownBlock = some b → b ≠ g := fun b e e2 => by have := own_lt ho b e; omega
  have k : ∀ b, b ≠ g → (v.setCell ⟨g, 1, none⟩ (.slice A9 es'.length c9)).heap[b]? = v.heap[b]? := fun b hb => Below.heap_setCell _ _ _ b hb
  refine ⟨fun b => G b ∨ (Value.slice A9 es'.length c9).ownBlock = some b, ⟨A9, c9, AM, cM, hbk.set 1 _, ((own_slG ho).kept fun b e => k b (ne b e)).more fun b e => .inr e, ?_, own_le ho, h4, .inl h5, ?_⟩, ?_, ?_⟩
  · rcases h2 with h2 | ⟨b, off, e1, e2, e3⟩
    · exact .inl h2
    · refine .inr ⟨b, off, e1, .inl e2, fun j u hu => ?_⟩
      have hc := e3 j u hu
      by_cases hbg : b = g
      · subst hbg
        obtain ⟨z, hz, rfl⟩ : ∃ z, ms[j]? = some z ∧ u = .int .i64 z := by
          simp [nums] at hu
          obtain ⟨z, h1, h2⟩ := hu
          exact ⟨z, h1, h2.symm⟩
        by_cases hoj : off + j = 1
        · rw [hoj, hbk.cell 1 rfl] at hc
          cases hc
        · rw [World.cell?_setCell_other]
          · exact hc
          · intro e; injection e; omega
      · exact (World.cell?_of_block (a := ⟨b, off + j, none⟩) (k b hbg)).trans hc
  · intro b hb
    rw [heap_set]
    rcases hb with hb | hb
    · have := hlt b hb; omega
    · exact (ho.lt b hb).2
  · exact (Turn.of (F := fun k => k = g) (below_go hb hv)).grown (grown_set v g 1 _) fun j e _ => by injection e with e; exact e.symm
  · intro b hb
    rcases hb with hb | hb
    · exact .inl hb
    · have := own_lt ho b hb; exact .inr (by omega)
end
/-- How many of a list are k. -/
def misN (ms : List Int) (k : Int) : Nat := (ms.filter fun z => decide (z = k)).length
theorem misN_snoc (ms : List Int) (k z : Int) : misN (ms ++ [z]) k = misN ms k + if z = k then 1 else 0 := by
  unfold misN
  rw [List.filter_append, List.length_append]
  by_cases h : z = k <;> simp [h]
theorem recN_take (es : List Ev) (k : Nat) (hk : k < es.length) (z : Int) : recN (es.take (k + 1)) z = recN (es.take k) z + if (es[k].1 : Int) = z ∧ cntE es[k] = true then 1 else 0 := by
  rw [← List.take_append_getElem hk]
  unfold recN
  rw [List.filter_append, List.length_append]
  by_cases h1 : (es[k].1 : Int) = z <;> by_cases h2 : cntE es[k] = true <;> simp [h1, h2]
set_option maxRecDepth 100000 in
theorem rcounts_any (p o h a x : Int) (w : World) :
    Calls Try.prog 52 #[evv p o h a x] w fun e w' => e = .returned (.bool (decide (o ≠ 32 ∧ o ≠ 33))) ∧ Below w.heap.size w w' := by
  unfold evv
  go_enter Try.func52, Try.ntmps52
  go_wp2
  all_goals (go_ret)
  all_goals exact ⟨congrArg (fun b => Ending.returned (.bool b)) (by by_cases h1 : o = 32 <;> by_cases h2 : o = 33 <;> simp_all), below_new _ _ _⟩
theorem cnt_dec (e : Ev) : (decide ((e.2.1 : Int) ≠ 32 ∧ (e.2.1 : Int) ≠ 33)) = cntE e := by
  unfold cntE
  by_cases h1 : e.2.1 = 32 <;> by_cases h2 : e.2.1 = 33 <;> simp [h1, h2] <;> omega
set_option maxRecDepth 100000 in
set_option maxHeartbeats 1000000 in
theorem rrecords_any (G : Nat → Prop) (g cap : Nat) (es : List Ev) (ms : List Int) (z : Int) (w : World) (h : RefAt w G g cap es ms) (hm : es.length ≤ 1000) :
    Calls Try.prog 55 #[.pointer (some ⟨g, 0, none⟩), .int .i64 z] w fun e w' => e = .returned (.int .i64 (recN es z)) ∧ Below w.heap.size w w' := by
  have HLT := hid h.lt
  obtain ⟨AL, cL, AM, cM, hb, h1, _, hLc, _⟩ := h
  have HBK := hid hb
  have HSL := hid (h1.sl HLT.out)
  obtain ⟨n, hn⟩ : ∃ n, n = es.length := ⟨_, rfl⟩
  have HN := hid hn
  rw [← hn] at HBK hm hLc
  clear hb h1 hn
  go_enter Try.func55, Try.ntmps55
  go_wp2_with fail
  go_loopw [5, 6] (fun v i wr => ∃ k : Nat, k ≤ n ∧ i = .int .i64 k ∧ v = .int .i64 (recN (es.take k) z : Nat) ∧ Below w.heap.size w wr) (fun _ i _ => n - (intOf i).toNat)
  case atStart => exact ⟨0, Nat.zero_le _, rfl, rfl, Below.refl _ _⟩
  case round =>
    obtain ⟨k, hk, rfl, rfl, hb⟩ := hrel
    have HB := hid hb
    have hc1 := (HBK.out.below hb).cell 1 rfl
    clear hb
    by_cases hlt : k < n
    · have hk' : k < es.length := by rw [← HN.out]; exact hlt
      have HST := hid (recN_take es k hk' z)
      obtain ⟨b, off, rfl, hbl, q0, q1, q2, q3, q4⟩ := sl_ev (HSL.out.keep fun p hp => HB.out.cell hp) hk'
      have hcd := cnt_dec es[k]
      obtain ⟨⟨p, o, h', a, x⟩, hev⟩ : ∃ v, es[k] = v := ⟨_, rfl⟩
      rw [hev] at q0 q1 q2 q3 q4 HST hcd
      simp only at q0 q1 q2 q3 q4 hcd
      have hrl := recN_le (es.take k) z
      rw [List.length_take] at hrl
      obtain ⟨rk, hrk⟩ : ∃ rk, rk = recN (es.take k) z := ⟨_, rfl⟩
      rw [← hrk] at HST hrl ⊢
      have hrk1 : rk ≤ 1000 := by omega
      clear hrl hrk hev
      by_cases hpz : (p : Int) = z
      · have HCT := hid (rcounts_any p o h' a x wr)
        rw [hcd] at HCT
        unfold evv at HCT
        have HCD := hid hcd
        clear hcd
        subst hpz
        by_cases hct : cntE (p, o, h', a, x) = true
        · rw [hct] at HCT
          have HST2 := hid (show recN (es.take (k + 1)) (p : Int) = rk + 1 by rw [HST.out, if_pos ⟨rfl, hct⟩])
          clear hct
          go_wp2_with fail
          refine HCT.out.mono ?_
          rintro e w2 ⟨rfl, hb2⟩
          have HB2 := hid (below_go HB.out hb2)
          clear q0 q1 q2 q3 q4 hc1 hb2
          go_wp2_with fail
          go_roundw
          case rel => exact ⟨k + 1, by omega, by go_num, by rw [HST2.out]; go_num, HB2.out⟩
          case measure => simp [intOf]; omega
        · have hct' : cntE (p, o, h', a, x) = false := by simpa using hct
          rw [hct'] at HCT
          have HST2 := hid (show recN (es.take (k + 1)) (p : Int) = rk by rw [HST.out, if_neg (fun h => hct h.2), Nat.add_zero])
          clear hct hct'
          go_wp2_with fail
          refine HCT.out.mono ?_
          rintro e w2 ⟨rfl, hb2⟩
          have HB2 := hid (below_go HB.out hb2)
          clear q0 q1 q2 q3 q4 hc1 hb2
          go_wp2_with fail
          go_roundw
          case rel => exact ⟨k + 1, by omega, by go_num, by rw [HST2.out], HB2.out⟩
          case measure => simp [intOf]; omega
      · have HST2 := hid (show recN (es.take (k + 1)) z = rk by rw [HST.out, if_neg (fun h => hpz h.1), Nat.add_zero])
        have hpz' : ((p : Int) == z) = false := by simpa using hpz
        clear hcd hpz
        go_wp2_with fail
        go_roundw
        case rel => exact ⟨k + 1, by omega, by go_num, by rw [HST2.out], HB.out⟩
        case measure => simp [intOf]; omega
    · obtain rfl : n = k := by omega
      have HAL := hid (show es.take n = es by rw [HN.out]; simp)
      rw [HAL.out]
      go_wp2_with fail
      go_ret
      exact ⟨rfl, HB.out⟩
set_option maxRecDepth 100000 in
set_option maxHeartbeats 1000000 in
theorem rmissed_any (G : Nat → Prop) (g cap : Nat) (es : List Ev) (ms : List Int) (z : Int) (w : World) (h : RefAt w G g cap es ms) (hm : ms.length ≤ 1000) :
    Calls Try.prog 57 #[.pointer (some ⟨g, 0, none⟩), .int .i64 z] w fun e w' => e = .returned (.int .i64 (misN ms z)) ∧ Below w.heap.size w w' := by
  have HLT := hid h.lt
  obtain ⟨AL, cL, AM, cM, hb, _, h2, _, hMc, _⟩ := h
  have HBK := hid hb
  have HSL := hid (h2.sl HLT.out)
  obtain ⟨n, hn⟩ : ∃ n, n = ms.length := ⟨_, rfl⟩
  have HN := hid hn
  rw [← hn] at HBK hm hMc
  clear hb h2 hn
  go_enter Try.func57, Try.ntmps57
  go_wp2_with fail
  go_loopw [5, 6] (fun v i wr => ∃ k : Nat, k ≤ n ∧ i = .int .i64 k ∧ v = .int .i64 (misN (ms.take k) z : Nat) ∧ Below w.heap.size w wr) (fun _ i _ => n - (intOf i).toNat)
  case atStart => exact ⟨0, Nat.zero_le _, rfl, rfl, Below.refl _ _⟩
  case round =>
    obtain ⟨k, hk, rfl, rfl, hb⟩ := hrel
    have HB := hid hb
    have hc1 := (HBK.out.below hb).cell 2 rfl
    clear hb
    by_cases hlt : k < n
    · have hk' : k < ms.length := by rw [← HN.out]; exact hlt
      have HST := hid (show misN (ms.take (k + 1)) z = misN (ms.take k) z + if ms[k] = z then 1 else 0 by rw [← List.take_append_getElem hk', misN_snoc])
      obtain ⟨b, off, rfl, hbl, q0⟩ := (HSL.out.keep fun p hp => HB.out.cell hp).num hk'
      obtain ⟨y, hy⟩ : ∃ y, ms[k] = y := ⟨_, rfl⟩
      rw [hy] at q0 HST
      have hrl : misN (ms.take k) z ≤ k := by
        have := List.length_filter_le (fun y => decide (y = z)) (ms.take k)
        rw [List.length_take] at this
        unfold misN; omega
      obtain ⟨rk, hrk⟩ : ∃ rk, rk = misN (ms.take k) z := ⟨_, rfl⟩
      rw [← hrk] at HST hrl ⊢
      have hrk1 : rk ≤ 1000 := by omega
      clear hrl hrk hy
      by_cases hpz : y = z
      · have HST2 := hid (show misN (ms.take (k + 1)) z = rk + 1 by rw [HST.out, if_pos hpz])
        subst hpz
        go_wp2_with fail
        go_roundw
        case rel => exact ⟨k + 1, by omega, by go_num, by rw [HST2.out]; go_num, HB.out⟩
        case measure => simp [intOf]; omega
      · have HST2 := hid (show misN (ms.take (k + 1)) z = rk by rw [HST.out, if_neg hpz, Nat.add_zero])
        have hpz' : (y == z) = false := by simpa using hpz
        go_wp2_with fail
        go_roundw
        case rel => exact ⟨k + 1, by omega, by go_num, by rw [HST2.out], HB.out⟩
        case measure => simp [intOf]; omega
    · obtain rfl : n = k := by omega
      have HAL := hid (show ms.take n = ms by rw [HN.out]; simp)
      rw [HAL.out]
      go_wp2_with fail
      go_ret
      exact ⟨rfl, HB.out⟩
set_option maxRecDepth 100000 in
theorem rroom_any (G : Nat → Prop) (g cap : Nat) (es : List Ev) (ms : List Int) (k : Int) (w : World) (h : RefAt w G g cap es ms) (hm : es.length ≤ 1000) :
    Calls Try.prog 53 #[.pointer (some ⟨g, 0, none⟩), .int .i64 k] w fun e w' => e = .returned (.bool (decide (recN es k < cap))) ∧ Below w.heap.size w w' := by
  have HR := hid (fun (W : World) (hW : Below w.heap.size w W) => rrecords_any G g cap es ms k W (h.below hW) hm)
  obtain ⟨AL, cL, AM, cM, hb, _⟩ := h
  have h0 : w.cell? ⟨g, 0, none⟩ = some (.int .i64 cap) := hb.cell 0 rfl
  clear hb
  go_enter Try.func53, Try.ntmps53
  go_wp2_with fail
  refine wp_region_noPanic ?_
  refine wp_region_held_drew (S := (fun W => W.cell? ⟨g, 0, none⟩ = some (.int .i64 cap))) (by kernel_rfl) h0 (fun hH0 => ?_)
  refine wpAnyH_take (i := 0) (v := ?_) rfl (by kernel_rfl) (by kernel_rfl) (by kernel_rfl) (fun _ _ _ h => h) (Or.inl ⟨by rfl, ?_⟩) hH0 ?_
  rotate_left
  · (intro w hSw; (try dsimp only at hSw); go_simp; try (with_reducible rfl))
  try simp only [Act.put, List.getElem_toArray, List.getElem_cons_zero, List.setIfInBounds_toArray, List.set_cons_zero, List.set_cons_succ]
  refine wpAnyH_take (i := 1) (v := ?_) rfl (by kernel_rfl) (by kernel_rfl) (by kernel_rfl) (fun _ _ _ h => h) (Or.inl ⟨by rfl, ?_⟩) hH0 ?_
  rotate_left
  · (intro w hSw; (try dsimp only at hSw); go_simp; try (with_reducible rfl))
  try simp only [Act.put, List.getElem_toArray, List.getElem_cons_zero, List.getElem_cons_succ, List.setIfInBounds_toArray, List.set_cons_zero, List.set_cons_succ]
  refine wpAnyH_take (i := 3) (v := ?_) rfl (by kernel_rfl) (by kernel_rfl) (by kernel_rfl) (fun _ _ _ h => h) (Or.inl ⟨by rfl, ?_⟩) hH0 ?_
  rotate_left
  · (intro w hSw; (try dsimp only at hSw); go_simp; try (with_reducible rfl))
  try simp only [Act.put, List.getElem_toArray, List.getElem_cons_zero, List.getElem_cons_succ, List.setIfInBounds_toArray, List.set_cons_zero, List.set_cons_succ]
  refine wpAnyH_take (i := 4) (v := ?_) rfl (by kernel_rfl) (by kernel_rfl) (by kernel_rfl) (fun _ _ _ h => h) (Or.inl ⟨by rfl, ?_⟩) hH0 ?_
  rotate_left
  · (intro w hSw; (try dsimp only at hSw); go_simp; try (with_reducible rfl))
  try simp only [Act.put, List.getElem_toArray, List.getElem_cons_zero, List.getElem_cons_succ, List.setIfInBounds_toArray, List.set_cons_zero, List.set_cons_succ]
  refine wpAnyH_take (i := 5) (v := ?_) rfl (by kernel_rfl) (by kernel_rfl) (by kernel_rfl) (fun _ _ _ h => h) (Or.inl ⟨by rfl, ?_⟩) hH0 ?_
  rotate_left
  · (intro w hSw; (try dsimp only at hSw); go_simp; try (with_reducible rfl))
  try simp only [Act.put, List.getElem_toArray, List.getElem_cons_zero, List.getElem_cons_succ, List.setIfInBounds_toArray, List.set_cons_zero, List.set_cons_succ]
  refine wpAnyH_take (i := 6) (v := ?_) rfl (by kernel_rfl) (by kernel_rfl) (by kernel_rfl) (fun _ _ _ h => h) (Or.inl ⟨by rfl, ?_⟩) hH0 ?_
  rotate_left
  · (intro w hSw; (try dsimp only at hSw); go_simp; try (with_reducible rfl))
  try simp only [Act.put, List.getElem_toArray, List.getElem_cons_zero, List.getElem_cons_succ, List.setIfInBounds_toArray, List.set_cons_zero, List.set_cons_succ]
  refine wpAnyH_ready (rs := [2]) (by kernel_rfl) (by simp) ?_
  refine AllReadyH.cons rfl (fun K hK => ?_) AllReadyH.nil
  simp only [List.getElem_toArray, List.getElem_cons_zero, List.getElem_cons_succ]
  go_simp
  refine (HR.out w.drew ((Below.refl _ _).drew)).mono ?_
  rintro e w1 ⟨rfl, hb1⟩
  have HB1 := hid (undrew hb1)
  refine hK.out _ _ (cell_go hH0 hb1) (fun hH1 => ?_)
  clear hK K hH0
  try simp only [Act.put, List.setIfInBounds_toArray, List.set_cons_zero, List.set_cons_succ]
  refine wpAnyH_take (i := 7) (v := ?_) rfl (by kernel_rfl) (by kernel_rfl) (by kernel_rfl) (fun _ _ _ h => h) (Or.inl ⟨by rfl, ?_⟩) hH1 ?_
  rotate_left
  · (intro w hSw; (try dsimp only at hSw); go_simp; try (with_reducible rfl))
  try simp only [Act.put, List.getElem_toArray, List.getElem_cons_zero, List.getElem_cons_succ, List.setIfInBounds_toArray, List.set_cons_zero, List.set_cons_succ]
  refine wpAnyH_take (i := 8) (v := ?_) rfl (by kernel_rfl) (by kernel_rfl) (by kernel_rfl) (fun _ _ _ h => h) (Or.inl ⟨by rfl, ?_⟩) hH1 ?_
  rotate_left
  · (intro w hSw; (try dsimp only at hSw); go_simp; try (with_reducible rfl))
  try simp only [Act.put, List.getElem_toArray, List.getElem_cons_zero, List.getElem_cons_succ, List.setIfInBounds_toArray, List.set_cons_zero, List.set_cons_succ]
  refine wpAnyH_done (by kernel_rfl) ?_ _
  refine NoPanic.normal ?_
  go_wp2_with fail
  go_ret
  exact ⟨by simp, HB1.out⟩

set_option maxRecDepth 100000 in
set_option maxHeartbeats 2000000 in
theorem rappend_ok (G : Nat → Prop) (g cap : Nat) (es : List Ev) (ms : List Int) (p o h a x : Nat) (w : World) (hf : RefAt w G g cap es ms) (hr : Right (p, o, h, a, x)) (hm : es.length ≤ 1000) (hc : cntE (p, o, h, a, x) = true) (hroom : recN es p < cap) :
    Calls Try.prog 28 #[.pointer (some ⟨g, 0, none⟩), evv p o h a x] w fun e w' => e = .returned (.int .i64 0) ∧ RefStep w G g cap (es ++ [(p, o, h, a, x)]) ms w' := by
  have HCK := hid (rcheck_yes (p : Int) (o : Int) (x : Int) (h : Int) (a : Int) (w.alloc (.cells #[.int .i64 (p : Int), .int .i64 (o : Int), .int .u64 (h : Int), .int .u64 (a : Int), .int .i64 (x : Int)] 36)) hr.1)
  have HX := hid (ev_new p o h a x w)
  have HB := hid (below_new w #[.int .i64 (p : Int), .int .i64 (o : Int), .int .u64 (h : Int), .int .u64 (a : Int), .int .i64 (x : Int)] 36)
  have HRF := hid hf
  clear hf
  unfold evv at HCK ⊢
  go_enter Try.func28, Try.ntmps28
  go_wp2_with fail
  refine HCK.out.mono ?_
  rintro e w1 ⟨rfl, hb1⟩
  have HB1 := hid (below_go HB.out hb1)
  have HX1 := hid (ev_keep HX.out hb1)
  clear hb1 HCK
  have HCT := hid (rcounts_any p o h a x w1)
  rw [cnt_dec (p, o, h, a, x)] at HCT
  unfold evv at HCT
  obtain ⟨⟨f0, f1, f2, f3, f4⟩, hg1⟩ := HX1.out
  go_wp2_with fail
  clear f0 f1 f2 f3 f4 hg1
  refine HCT.out.mono ?_
  rintro e w2 ⟨rfl, hb2⟩
  have HB2 := hid (below_go HB1.out hb2)
  have HX2 := hid (ev_keep HX1.out hb2)
  clear hb2 HCT
  rw [hc]
  have HRM := hid (rroom_any G g cap es ms p w2 (HRF.out.below HB2.out) hm)
  rw [show decide (recN es p < cap) = true by simpa using hroom] at HRM
  obtain ⟨⟨f0, f1, f2, f3, f4⟩, hg2⟩ := HX2.out
  go_wp2_with fail
  clear f0 f1 f2 f3 f4 hg2
  refine HRM.out.mono ?_
  rintro e w3 ⟨rfl, hb3⟩
  have HB03 := hid (below_go HB2.out hb3)
  have HX3 := hid (ev_keep HX2.out hb3)
  clear hb3
  obtain ⟨AL, cL, AM, cM, hbk, h1, _, hLc, _, _, hG⟩ := HRF.out.below HB03.out
  have HSL := hid (h1.sl hG)
  have HBK := hid hbk
  have HS0 := hid (show ∀ W, Below w3.heap.size w3 W → W.cell? ⟨g, 1, none⟩ = some (.slice AL es.length cL) ∧ W.cell? ⟨w.heap.size, 0, none⟩ = some (.int .i64 p) ∧ W.cell? ⟨w.heap.size, 1, none⟩ = some (.int .i64 o) ∧ W.cell? ⟨w.heap.size, 2, none⟩ = some (.int .u64 h) ∧ W.cell? ⟨w.heap.size, 3, none⟩ = some (.int .u64 a) ∧ W.cell? ⟨w.heap.size, 4, none⟩ = some (.int .i64 x) from fun W hW => ⟨(HBK.out.below hW).cell 1 rfl, (ev_keep HX3.out hW).1⟩)
  clear hbk h1 hG
  go_wp2_with fail
  refine wp_region_noPanic ?_
  refine AnyJ.start (S := (fun W => W.cell? ⟨g, 1, none⟩ = some (.slice AL es.length cL) ∧ W.cell? ⟨w.heap.size, 0, none⟩ = some (.int .i64 p) ∧ W.cell? ⟨w.heap.size, 1, none⟩ = some (.int .i64 o) ∧ W.cell? ⟨w.heap.size, 2, none⟩ = some (.int .u64 h) ∧ W.cell? ⟨w.heap.size, 3, none⟩ = some (.int .u64 a) ∧ W.cell? ⟨w.heap.size, 4, none⟩ = some (.int .i64 x))) (J := 12) (by kernel_rfl) (HS0.out _ ((Below.refl _ _).drew)) (fun hH0 => ?_)
  obtain ⟨v0, hv0⟩ : ∃ v0, v0 = w3.drew := ⟨_, rfl⟩
  have HL0 := hid (show Below w3.heap.size w3 v0 by rw [hv0]; exact (Below.refl _ _).drew)
  rw [← hv0] at hH0
  simp only [← hv0]
  clear hv0
  refine AnyJ.take (i := 0) (v := ?_) (T := [10, 11, 12]) rfl (by kernel_rfl) (by kernel_rfl) (by kernel_rfl) (by kernel_rfl) (fun _ _ _ h => h) (Or.inl ⟨by rfl, ?_⟩) hH0 ?_
  rotate_left
  · (intro w hSw; (try dsimp only at hSw); go_simp; try (with_reducible rfl))
  try simp only [Act.put, List.getElem_toArray, List.getElem_cons_zero, List.setIfInBounds_toArray, List.set_cons_zero, List.set_cons_succ]
  refine AnyJ.take (i := 2) (v := ?_) (T := [3, 4, 5, 6, 9, 12]) rfl (by kernel_rfl) (by kernel_rfl) (by kernel_rfl) (by kernel_rfl) (fun _ _ _ h => h) (Or.inl ⟨by rfl, ?_⟩) hH0 ?_
  rotate_left
  · (intro w hSw; (try dsimp only at hSw); go_simp; try (with_reducible rfl))
  try simp only [Act.put, List.getElem_toArray, List.getElem_cons_zero, List.getElem_cons_succ, List.setIfInBounds_toArray, List.set_cons_zero, List.set_cons_succ]
  refine AnyJ.take (i := 3) (v := ?_) (T := [4, 5, 6, 9, 12]) rfl (by kernel_rfl) (by kernel_rfl) (by kernel_rfl) (by kernel_rfl) (fun _ _ _ h => h) (Or.inl ⟨by rfl, ?_⟩) hH0 ?_
  rotate_left
  · (intro w hSw; (try dsimp only at hSw); go_simp; try (with_reducible rfl))
  try simp only [Act.put, List.getElem_toArray, List.getElem_cons_zero, List.getElem_cons_succ, List.setIfInBounds_toArray, List.set_cons_zero, List.set_cons_succ]
  refine AnyJ.take (i := 4) (v := ?_) (T := [5, 6, 9, 12]) rfl (by kernel_rfl) (by kernel_rfl) (by kernel_rfl) (by kernel_rfl) (fun _ _ _ h => h) (Or.inl ⟨by rfl, ?_⟩) hH0 ?_
  rotate_left
  · (intro w hSw; (try dsimp only at hSw); go_simp; try (with_reducible rfl))
  try simp only [Act.put, List.getElem_toArray, List.getElem_cons_zero, List.getElem_cons_succ, List.setIfInBounds_toArray, List.set_cons_zero, List.set_cons_succ]
  refine AnyJ.take (i := 5) (v := ?_) (T := [6, 9, 12]) rfl (by kernel_rfl) (by kernel_rfl) (by kernel_rfl) (by kernel_rfl) (fun _ _ _ h => h) (Or.inl ⟨by rfl, ?_⟩) hH0 ?_
  rotate_left
  · (intro w hSw; (try dsimp only at hSw); go_simp; try (with_reducible rfl))
  try simp only [Act.put, List.getElem_toArray, List.getElem_cons_zero, List.getElem_cons_succ, List.setIfInBounds_toArray, List.set_cons_zero, List.set_cons_succ]
  refine AnyJ.take (i := 7) (v := ?_) (T := [8, 9, 12]) rfl (by kernel_rfl) (by kernel_rfl) (by kernel_rfl) (by kernel_rfl) (fun _ _ _ h => h) (Or.inl ⟨by rfl, ?_⟩) hH0 ?_
  rotate_left
  · (intro w hSw; (try dsimp only at hSw); go_simp; try (with_reducible rfl))
  try simp only [Act.put, List.getElem_toArray, List.getElem_cons_zero, List.getElem_cons_succ, List.setIfInBounds_toArray, List.set_cons_zero, List.set_cons_succ]
  refine AnyJ.two (i := 1) (j := 8) (by kernel_rfl) rfl rfl (fun K hK => ?_) (fun K hK => ?_)
  · simp only [List.getElem_toArray, List.getElem_cons_zero, List.getElem_cons_succ]
    go_simp
    refine hK.out _ _ (evS_go hH0 (below_new _ _ _)) (fun hH1 => ?_)
    clear hK K hH0
    try simp only [Act.put, List.setIfInBounds_toArray, List.set_cons_zero, List.set_cons_succ]
    obtain ⟨gE, hgE⟩ : ∃ g, g = v0.heap.size := ⟨_, rfl⟩
    have HL1 := hid (HL0.out.trans ((below_new v0 #[] 36).mono HL0.out.size))
    have HE := hid (own_emptyE v0 w3.heap.size HL0.out.size)
    rw [← hgE] at HE
    simp only [← hgE]
    obtain ⟨v1, hvv⟩ : ∃ v, v = v0.alloc (.cells #[] 36) := ⟨_, rfl⟩
    simp only [← hvv] at HL1 hH1 HE ⊢
    have HEL := hid (show gE < v1.heap.size by rw [hvv, hgE]; simp)
    clear hvv hgE
    refine AnyJ.two (i := 6) (j := 8) (by kernel_rfl) rfl rfl (fun K hK => ?_) (fun K hK => ?_)
    · simp only [List.getElem_toArray, List.getElem_cons_zero, List.getElem_cons_succ]
      rw [if_pos (by rfl)]
      refine wpo_appEs (.tmp 21) (.tmp 25) rfl w3.heap.size (some ⟨gE, 0, none⟩) (0) 0 ([]) rfl HE.out AL w3.heap.size es.length cL es rfl rfl (HSL.out.below HL1.out) es.length (by simp) (by omega) HL1.out.size ?_
      intro B6 d6 v2 ho hg _
      have HL2 := hid (HL1.out.grown hg HL1.out.size (own_lt HE.out))
      rw [List.nil_append] at ho
      have HR6 := hid ho
      clear ho hg
      refine hK.out _ _ (HS0.out _ HL2.out) (fun hH2 => ?_)
      clear hK K hH1
      try simp only [Act.put, List.setIfInBounds_toArray, List.set_cons_zero, List.set_cons_succ]
      refine AnyJ.one (i := 8) (by kernel_rfl) rfl (fun K hK => ?_)
      simp only [List.getElem_toArray, List.getElem_cons_zero, List.getElem_cons_succ]
      go_simp
      refine hK.out _ _ (evS_go hH2 (below_new _ _ _)) (fun hH3 => ?_)
      clear hK K hH2
      try simp only [Act.put, List.setIfInBounds_toArray, List.set_cons_zero, List.set_cons_succ]
      obtain ⟨gC, hgC⟩ : ∃ g, g = v2.heap.size := ⟨_, rfl⟩
      have HL3 := hid (HL2.out.trans ((below_new v2 #[.int .i64 (p : Int), .int .i64 (o : Int), .int .u64 (h : Int), .int .u64 (a : Int), .int .i64 (x : Int)] 36).mono HL2.out.size))
      have HC := hid (show Blk (v2.alloc (.cells #[.int .i64 (p : Int), .int .i64 (o : Int), .int .u64 (h : Int), .int .u64 (a : Int), .int .i64 (x : Int)] 36)) v2.heap.size #[.int .i64 (p : Int), .int .i64 (o : Int), .int .u64 (h : Int), .int .u64 (a : Int), .int .i64 (x : Int)] 36 from heap_alloc_new v2 _)
      rw [← hgC] at HC
      have HR6 := hid (own_below HR6.out (below_new v2 #[.int .i64 (p : Int), .int .i64 (o : Int), .int .u64 (h : Int), .int .u64 (a : Int), .int .i64 (x : Int)] 36))
      simp only [← hgC]
      obtain ⟨v3, hvv⟩ : ∃ v, v = v2.alloc (.cells #[.int .i64 (p : Int), .int .i64 (o : Int), .int .u64 (h : Int), .int .u64 (a : Int), .int .i64 (x : Int)] 36) := ⟨_, rfl⟩
      simp only [← hvv] at HL3 hH3 HR6 HC ⊢
      have HC0 := HC
      clear hvv hgC
      refine AnyJ.one (i := 9) (by kernel_rfl) rfl (fun K hK => ?_)
      simp only [List.getElem_toArray, List.getElem_cons_zero, List.getElem_cons_succ]
      rw [if_pos (by rfl)]
      refine wpo_appEs (.tmp 26) (.tmp 28) rfl w3.heap.size B6 (es.length) d6 (es) rfl HR6.out (some ⟨gC, 0, none⟩) (gC + 1) 1 1 [(p, o, h, a, x)] rfl rfl (sl_blkE HC.out) (es.length + 1) rfl (by omega) HL3.out.size ?_
      intro B9 d9 v4 ho hg _
      have HL4 := hid (HL3.out.grown hg HL3.out.size (own_lt HR6.out))
      have HR9 := hid ho
      clear ho hg
      refine hK.out _ _ (HS0.out _ HL4.out) (fun hH4 => ?_)
      clear hK K hH3
      try simp only [Act.put, List.setIfInBounds_toArray, List.set_cons_zero, List.set_cons_succ]
      refine AnyJ.take (i := 10) (v := ?_) (T := [11, 12]) rfl (by kernel_rfl) (by kernel_rfl) (by kernel_rfl) (by kernel_rfl) (fun _ _ _ h => h) (Or.inl ⟨by rfl, ?_⟩) hH4 ?_
      rotate_left
      · (intro w hSw; (try dsimp only at hSw); go_simp; try (with_reducible rfl))
      try simp only [Act.put, List.getElem_toArray, List.getElem_cons_zero, List.getElem_cons_succ, List.setIfInBounds_toArray, List.set_cons_zero, List.set_cons_succ]
      refine AnyJ.take (i := 11) (v := ?_) (T := [12]) rfl (by kernel_rfl) (by kernel_rfl) (by kernel_rfl) (by kernel_rfl) (fun _ _ _ h => h) (Or.inl ⟨by rfl, ?_⟩) hH4 ?_
      rotate_left
      · (intro w hSw; (try dsimp only at hSw); go_simp; try (with_reducible rfl))
      try simp only [Act.put, List.getElem_toArray, List.getElem_cons_zero, List.getElem_cons_succ, List.setIfInBounds_toArray, List.set_cons_zero, List.set_cons_succ]
      have hfz : v4.frozen? ⟨g, 1, none⟩ = false := (HBK.out.below (HL4.out.mono (Nat.le_refl _))).frozen 1
      have hcl := hH4.1
      refine AnyJ.last (by kernel_rfl) rfl (fun K hK => ?_)
      simp only [List.getElem_toArray, List.getElem_cons_zero, List.getElem_cons_succ]
      go_simp
      refine hK.out _ _ ?_
      clear hK K
      try simp only [Act.put, List.setIfInBounds_toArray, List.set_cons_zero, List.set_cons_succ]
      refine AnyJ.done (by kernel_rfl) ?_ _
      refine NoPanic.normal ?_
      clear hH4 hcl hfz
      obtain ⟨v9, hv9⟩ : ∃ v9, v9 = v4.setCell ⟨g, 1, none⟩ (.slice B9 (es.length + 1) d9) := ⟨_, rfl⟩
      have HV9 := hid hv9
      clear hv9
      go_wp2_with fail
      simp only [← HV9.out]
      go_ret
      exact ⟨rfl, by rw [HV9.out]; exact HRF.out.pushed HB03.out HL4.out HR9.out⟩
    · simp only [List.getElem_toArray, List.getElem_cons_zero, List.getElem_cons_succ]
      go_simp
      refine hK.out _ _ (evS_go hH1 (below_new _ _ _)) (fun hH2 => ?_)
      clear hK K hH1
      try simp only [Act.put, List.setIfInBounds_toArray, List.set_cons_zero, List.set_cons_succ]
      obtain ⟨gC, hgC⟩ : ∃ g, g = v1.heap.size := ⟨_, rfl⟩
      have HL2 := hid (HL1.out.trans ((below_new v1 #[.int .i64 (p : Int), .int .i64 (o : Int), .int .u64 (h : Int), .int .u64 (a : Int), .int .i64 (x : Int)] 36).mono HL1.out.size))
      have HC := hid (show Blk (v1.alloc (.cells #[.int .i64 (p : Int), .int .i64 (o : Int), .int .u64 (h : Int), .int .u64 (a : Int), .int .i64 (x : Int)] 36)) v1.heap.size #[.int .i64 (p : Int), .int .i64 (o : Int), .int .u64 (h : Int), .int .u64 (a : Int), .int .i64 (x : Int)] 36 from heap_alloc_new v1 _)
      rw [← hgC] at HC
      have HE := hid (own_below HE.out (below_new v1 #[.int .i64 (p : Int), .int .i64 (o : Int), .int .u64 (h : Int), .int .u64 (a : Int), .int .i64 (x : Int)] 36))
      have hCE : gC ≠ gE := by have := HEL.out; omega
      simp only [← hgC]
      obtain ⟨v2, hvv⟩ : ∃ v, v = v1.alloc (.cells #[.int .i64 (p : Int), .int .i64 (o : Int), .int .u64 (h : Int), .int .u64 (a : Int), .int .i64 (x : Int)] 36) := ⟨_, rfl⟩
      simp only [← hvv] at HL2 hH2 HE HC ⊢
      have HC0 := HC
      clear hvv hgC
      refine AnyJ.one (i := 6) (by kernel_rfl) rfl (fun K hK => ?_)
      simp only [List.getElem_toArray, List.getElem_cons_zero, List.getElem_cons_succ]
      rw [if_pos (by rfl)]
      refine wpo_appEs (.tmp 21) (.tmp 25) rfl w3.heap.size (some ⟨gE, 0, none⟩) (0) 0 ([]) rfl HE.out AL w3.heap.size es.length cL es rfl rfl (HSL.out.below HL2.out) es.length (by simp) (by omega) HL2.out.size ?_
      intro B6 d6 v3 ho hg _
      have HL3 := hid (HL2.out.grown hg HL2.out.size (own_lt HE.out))
      rw [List.nil_append] at ho
      have HR6 := hid ho
      have HC := hid (show Blk v3 gC #[.int .i64 (p : Int), .int .i64 (o : Int), .int .u64 (h : Int), .int .u64 (a : Int), .int .i64 (x : Int)] 36 from (hg.block gC HC.out.lt (fun e => hCE (by injection e))).trans HC.out)
      clear ho hg
      refine hK.out _ _ (HS0.out _ HL3.out) (fun hH3 => ?_)
      clear hK K hH2
      try simp only [Act.put, List.setIfInBounds_toArray, List.set_cons_zero, List.set_cons_succ]
      refine AnyJ.one (i := 9) (by kernel_rfl) rfl (fun K hK => ?_)
      simp only [List.getElem_toArray, List.getElem_cons_zero, List.getElem_cons_succ]
      rw [if_pos (by rfl)]
      refine wpo_appEs (.tmp 26) (.tmp 28) rfl w3.heap.size B6 (es.length) d6 (es) rfl HR6.out (some ⟨gC, 0, none⟩) (gC + 1) 1 1 [(p, o, h, a, x)] rfl rfl (sl_blkE HC.out) (es.length + 1) rfl (by omega) HL3.out.size ?_
      intro B9 d9 v4 ho hg _
      have HL4 := hid (HL3.out.grown hg HL3.out.size (own_lt HR6.out))
      have HR9 := hid ho
      clear ho hg
      refine hK.out _ _ (HS0.out _ HL4.out) (fun hH4 => ?_)
      clear hK K hH3
      try simp only [Act.put, List.setIfInBounds_toArray, List.set_cons_zero, List.set_cons_succ]
      refine AnyJ.take (i := 10) (v := ?_) (T := [11, 12]) rfl (by kernel_rfl) (by kernel_rfl) (by kernel_rfl) (by kernel_rfl) (fun _ _ _ h => h) (Or.inl ⟨by rfl, ?_⟩) hH4 ?_
      rotate_left
      · (intro w hSw; (try dsimp only at hSw); go_simp; try (with_reducible rfl))
      try simp only [Act.put, List.getElem_toArray, List.getElem_cons_zero, List.getElem_cons_succ, List.setIfInBounds_toArray, List.set_cons_zero, List.set_cons_succ]
      refine AnyJ.take (i := 11) (v := ?_) (T := [12]) rfl (by kernel_rfl) (by kernel_rfl) (by kernel_rfl) (by kernel_rfl) (fun _ _ _ h => h) (Or.inl ⟨by rfl, ?_⟩) hH4 ?_
      rotate_left
      · (intro w hSw; (try dsimp only at hSw); go_simp; try (with_reducible rfl))
      try simp only [Act.put, List.getElem_toArray, List.getElem_cons_zero, List.getElem_cons_succ, List.setIfInBounds_toArray, List.set_cons_zero, List.set_cons_succ]
      have hfz : v4.frozen? ⟨g, 1, none⟩ = false := (HBK.out.below (HL4.out.mono (Nat.le_refl _))).frozen 1
      have hcl := hH4.1
      refine AnyJ.last (by kernel_rfl) rfl (fun K hK => ?_)
      simp only [List.getElem_toArray, List.getElem_cons_zero, List.getElem_cons_succ]
      go_simp
      refine hK.out _ _ ?_
      clear hK K
      try simp only [Act.put, List.setIfInBounds_toArray, List.set_cons_zero, List.set_cons_succ]
      refine AnyJ.done (by kernel_rfl) ?_ _
      refine NoPanic.normal ?_
      clear hH4 hcl hfz
      obtain ⟨v9, hv9⟩ : ∃ v9, v9 = v4.setCell ⟨g, 1, none⟩ (.slice B9 (es.length + 1) d9) := ⟨_, rfl⟩
      have HV9 := hid hv9
      clear hv9
      go_wp2_with fail
      simp only [← HV9.out]
      go_ret
      exact ⟨rfl, by rw [HV9.out]; exact HRF.out.pushed HB03.out HL4.out HR9.out⟩
  · simp only [List.getElem_toArray, List.getElem_cons_zero, List.getElem_cons_succ]
    go_simp
    refine hK.out _ _ (evS_go hH0 (below_new _ _ _)) (fun hH1 => ?_)
    clear hK K hH0
    try simp only [Act.put, List.setIfInBounds_toArray, List.set_cons_zero, List.set_cons_succ]
    obtain ⟨gC, hgC⟩ : ∃ g, g = v0.heap.size := ⟨_, rfl⟩
    have HL1 := hid (HL0.out.trans ((below_new v0 #[.int .i64 (p : Int), .int .i64 (o : Int), .int .u64 (h : Int), .int .u64 (a : Int), .int .i64 (x : Int)] 36).mono HL0.out.size))
    have HC := hid (show Blk (v0.alloc (.cells #[.int .i64 (p : Int), .int .i64 (o : Int), .int .u64 (h : Int), .int .u64 (a : Int), .int .i64 (x : Int)] 36)) v0.heap.size #[.int .i64 (p : Int), .int .i64 (o : Int), .int .u64 (h : Int), .int .u64 (a : Int), .int .i64 (x : Int)] 36 from heap_alloc_new v0 _)
    rw [← hgC] at HC
    simp only [← hgC]
    obtain ⟨v1, hvv⟩ : ∃ v, v = v0.alloc (.cells #[.int .i64 (p : Int), .int .i64 (o : Int), .int .u64 (h : Int), .int .u64 (a : Int), .int .i64 (x : Int)] 36) := ⟨_, rfl⟩
    simp only [← hvv] at HL1 hH1 HC ⊢
    have HC0 := HC
    clear hvv hgC
    refine AnyJ.one (i := 1) (by kernel_rfl) rfl (fun K hK => ?_)
    simp only [List.getElem_toArray, List.getElem_cons_zero, List.getElem_cons_succ]
    go_simp
    refine hK.out _ _ (evS_go hH1 (below_new _ _ _)) (fun hH2 => ?_)
    clear hK K hH1
    try simp only [Act.put, List.setIfInBounds_toArray, List.set_cons_zero, List.set_cons_succ]
    obtain ⟨gE, hgE⟩ : ∃ g, g = v1.heap.size := ⟨_, rfl⟩
    have HL2 := hid (HL1.out.trans ((below_new v1 #[] 36).mono HL1.out.size))
    have HE := hid (own_emptyE v1 w3.heap.size HL1.out.size)
    have HC := hid (Blk.below HC.out (below_new v1 #[] 36))
    have hCE : gC ≠ gE := by have := HC0.out.lt; omega
    rw [← hgE] at HE
    simp only [← hgE]
    obtain ⟨v2, hvv⟩ : ∃ v, v = v1.alloc (.cells #[] 36) := ⟨_, rfl⟩
    simp only [← hvv] at HL2 hH2 HE HC ⊢
    have HEL := hid (show gE < v2.heap.size by rw [hvv, hgE]; simp)
    clear hvv hgE
    refine AnyJ.one (i := 6) (by kernel_rfl) rfl (fun K hK => ?_)
    simp only [List.getElem_toArray, List.getElem_cons_zero, List.getElem_cons_succ]
    rw [if_pos (by rfl)]
    refine wpo_appEs (.tmp 21) (.tmp 25) rfl w3.heap.size (some ⟨gE, 0, none⟩) (0) 0 ([]) rfl HE.out AL w3.heap.size es.length cL es rfl rfl (HSL.out.below HL2.out) es.length (by simp) (by omega) HL2.out.size ?_
    intro B6 d6 v3 ho hg _
    have HL3 := hid (HL2.out.grown hg HL2.out.size (own_lt HE.out))
    rw [List.nil_append] at ho
    have HR6 := hid ho
    have HC := hid (show Blk v3 gC #[.int .i64 (p : Int), .int .i64 (o : Int), .int .u64 (h : Int), .int .u64 (a : Int), .int .i64 (x : Int)] 36 from (hg.block gC HC.out.lt (fun e => hCE (by injection e))).trans HC.out)
    clear ho hg
    refine hK.out _ _ (HS0.out _ HL3.out) (fun hH3 => ?_)
    clear hK K hH2
    try simp only [Act.put, List.setIfInBounds_toArray, List.set_cons_zero, List.set_cons_succ]
    refine AnyJ.one (i := 9) (by kernel_rfl) rfl (fun K hK => ?_)
    simp only [List.getElem_toArray, List.getElem_cons_zero, List.getElem_cons_succ]
    rw [if_pos (by rfl)]
    refine wpo_appEs (.tmp 26) (.tmp 28) rfl w3.heap.size B6 (es.length) d6 (es) rfl HR6.out (some ⟨gC, 0, none⟩) (gC + 1) 1 1 [(p, o, h, a, x)] rfl rfl (sl_blkE HC.out) (es.length + 1) rfl (by omega) HL3.out.size ?_
    intro B9 d9 v4 ho hg _
    have HL4 := hid (HL3.out.grown hg HL3.out.size (own_lt HR6.out))
    have HR9 := hid ho
    clear ho hg
    refine hK.out _ _ (HS0.out _ HL4.out) (fun hH4 => ?_)
    clear hK K hH3
    try simp only [Act.put, List.setIfInBounds_toArray, List.set_cons_zero, List.set_cons_succ]
    refine AnyJ.take (i := 10) (v := ?_) (T := [11, 12]) rfl (by kernel_rfl) (by kernel_rfl) (by kernel_rfl) (by kernel_rfl) (fun _ _ _ h => h) (Or.inl ⟨by rfl, ?_⟩) hH4 ?_
    rotate_left
    · (intro w hSw; (try dsimp only at hSw); go_simp; try (with_reducible rfl))
    try simp only [Act.put, List.getElem_toArray, List.getElem_cons_zero, List.getElem_cons_succ, List.setIfInBounds_toArray, List.set_cons_zero, List.set_cons_succ]
    refine AnyJ.take (i := 11) (v := ?_) (T := [12]) rfl (by kernel_rfl) (by kernel_rfl) (by kernel_rfl) (by kernel_rfl) (fun _ _ _ h => h) (Or.inl ⟨by rfl, ?_⟩) hH4 ?_
    rotate_left
    · (intro w hSw; (try dsimp only at hSw); go_simp; try (with_reducible rfl))
    try simp only [Act.put, List.getElem_toArray, List.getElem_cons_zero, List.getElem_cons_succ, List.setIfInBounds_toArray, List.set_cons_zero, List.set_cons_succ]
    have hfz : v4.frozen? ⟨g, 1, none⟩ = false := (HBK.out.below (HL4.out.mono (Nat.le_refl _))).frozen 1
    have hcl := hH4.1
    refine AnyJ.last (by kernel_rfl) rfl (fun K hK => ?_)
    simp only [List.getElem_toArray, List.getElem_cons_zero, List.getElem_cons_succ]
    go_simp
    refine hK.out _ _ ?_
    clear hK K
    try simp only [Act.put, List.setIfInBounds_toArray, List.set_cons_zero, List.set_cons_succ]
    refine AnyJ.done (by kernel_rfl) ?_ _
    refine NoPanic.normal ?_
    clear hH4 hcl hfz
    obtain ⟨v9, hv9⟩ : ∃ v9, v9 = v4.setCell ⟨g, 1, none⟩ (.slice B9 (es.length + 1) d9) := ⟨_, rfl⟩
    have HV9 := hid hv9
    clear hv9
    go_wp2_with fail
    simp only [← HV9.out]
    go_ret
    exact ⟨rfl, by rw [HV9.out]; exact HRF.out.pushed HB03.out HL4.out HR9.out⟩

set_option maxRecDepth 100000 in
set_option maxHeartbeats 2000000 in
theorem rappend_free (G : Nat → Prop) (g cap : Nat) (es : List Ev) (ms : List Int) (p o h a x : Nat) (w : World) (hf : RefAt w G g cap es ms) (hr : Right (p, o, h, a, x)) (hm : es.length ≤ 1000) (hc : cntE (p, o, h, a, x) = false) :
    Calls Try.prog 28 #[.pointer (some ⟨g, 0, none⟩), evv p o h a x] w fun e w' => e = .returned (.int .i64 0) ∧ RefStep w G g cap (es ++ [(p, o, h, a, x)]) ms w' := by
  have HCK := hid (rcheck_yes (p : Int) (o : Int) (x : Int) (h : Int) (a : Int) (w.alloc (.cells #[.int .i64 (p : Int), .int .i64 (o : Int), .int .u64 (h : Int), .int .u64 (a : Int), .int .i64 (x : Int)] 36)) hr.1)
  have HX := hid (ev_new p o h a x w)
  have HB := hid (below_new w #[.int .i64 (p : Int), .int .i64 (o : Int), .int .u64 (h : Int), .int .u64 (a : Int), .int .i64 (x : Int)] 36)
  have HRF := hid hf
  clear hf
  unfold evv at HCK ⊢
  go_enter Try.func28, Try.ntmps28
  go_wp2_with fail
  refine HCK.out.mono ?_
  rintro e w1 ⟨rfl, hb1⟩
  have HB1 := hid (below_go HB.out hb1)
  have HX1 := hid (ev_keep HX.out hb1)
  clear hb1 HCK
  have HCT := hid (rcounts_any p o h a x w1)
  rw [cnt_dec (p, o, h, a, x)] at HCT
  unfold evv at HCT
  obtain ⟨⟨f0, f1, f2, f3, f4⟩, hg1⟩ := HX1.out
  go_wp2_with fail
  clear f0 f1 f2 f3 f4 hg1
  refine HCT.out.mono ?_
  rintro e w2 ⟨rfl, hb2⟩
  have HB2 := hid (below_go HB1.out hb2)
  have HX2 := hid (ev_keep HX1.out hb2)
  clear hb2 HCT
  rw [hc]
  obtain ⟨w3, hw3⟩ : ∃ w3, w3 = w2 := ⟨_, rfl⟩
  have HB03 := hid (show Below w.heap.size w w3 by rw [hw3]; exact HB2.out)
  have HX3 := hid (show EvAt w.heap.size p o h a x w3 by rw [hw3]; exact HX2.out)
  rw [← hw3]
  clear hw3
  obtain ⟨AL, cL, AM, cM, hbk, h1, _, hLc, _, _, hG⟩ := HRF.out.below HB03.out
  have HSL := hid (h1.sl hG)
  have HBK := hid hbk
  have HS0 := hid (show ∀ W, Below w3.heap.size w3 W → W.cell? ⟨g, 1, none⟩ = some (.slice AL es.length cL) ∧ W.cell? ⟨w.heap.size, 0, none⟩ = some (.int .i64 p) ∧ W.cell? ⟨w.heap.size, 1, none⟩ = some (.int .i64 o) ∧ W.cell? ⟨w.heap.size, 2, none⟩ = some (.int .u64 h) ∧ W.cell? ⟨w.heap.size, 3, none⟩ = some (.int .u64 a) ∧ W.cell? ⟨w.heap.size, 4, none⟩ = some (.int .i64 x) from fun W hW => ⟨(HBK.out.below hW).cell 1 rfl, (ev_keep HX3.out hW).1⟩)
  clear hbk h1 hG
  go_wp2_with fail
  refine wp_region_noPanic ?_
  refine AnyJ.start (S := (fun W => W.cell? ⟨g, 1, none⟩ = some (.slice AL es.length cL) ∧ W.cell? ⟨w.heap.size, 0, none⟩ = some (.int .i64 p) ∧ W.cell? ⟨w.heap.size, 1, none⟩ = some (.int .i64 o) ∧ W.cell? ⟨w.heap.size, 2, none⟩ = some (.int .u64 h) ∧ W.cell? ⟨w.heap.size, 3, none⟩ = some (.int .u64 a) ∧ W.cell? ⟨w.heap.size, 4, none⟩ = some (.int .i64 x))) (J := 12) (by kernel_rfl) (HS0.out _ ((Below.refl _ _).drew)) (fun hH0 => ?_)
  obtain ⟨v0, hv0⟩ : ∃ v0, v0 = w3.drew := ⟨_, rfl⟩
  have HL0 := hid (show Below w3.heap.size w3 v0 by rw [hv0]; exact (Below.refl _ _).drew)
  rw [← hv0] at hH0
  simp only [← hv0]
  clear hv0
  refine AnyJ.take (i := 0) (v := ?_) (T := [10, 11, 12]) rfl (by kernel_rfl) (by kernel_rfl) (by kernel_rfl) (by kernel_rfl) (fun _ _ _ h => h) (Or.inl ⟨by rfl, ?_⟩) hH0 ?_
  rotate_left
  · (intro w hSw; (try dsimp only at hSw); go_simp; try (with_reducible rfl))
  try simp only [Act.put, List.getElem_toArray, List.getElem_cons_zero, List.setIfInBounds_toArray, List.set_cons_zero, List.set_cons_succ]
  refine AnyJ.take (i := 2) (v := ?_) (T := [3, 4, 5, 6, 9, 12]) rfl (by kernel_rfl) (by kernel_rfl) (by kernel_rfl) (by kernel_rfl) (fun _ _ _ h => h) (Or.inl ⟨by rfl, ?_⟩) hH0 ?_
  rotate_left
  · (intro w hSw; (try dsimp only at hSw); go_simp; try (with_reducible rfl))
  try simp only [Act.put, List.getElem_toArray, List.getElem_cons_zero, List.getElem_cons_succ, List.setIfInBounds_toArray, List.set_cons_zero, List.set_cons_succ]
  refine AnyJ.take (i := 3) (v := ?_) (T := [4, 5, 6, 9, 12]) rfl (by kernel_rfl) (by kernel_rfl) (by kernel_rfl) (by kernel_rfl) (fun _ _ _ h => h) (Or.inl ⟨by rfl, ?_⟩) hH0 ?_
  rotate_left
  · (intro w hSw; (try dsimp only at hSw); go_simp; try (with_reducible rfl))
  try simp only [Act.put, List.getElem_toArray, List.getElem_cons_zero, List.getElem_cons_succ, List.setIfInBounds_toArray, List.set_cons_zero, List.set_cons_succ]
  refine AnyJ.take (i := 4) (v := ?_) (T := [5, 6, 9, 12]) rfl (by kernel_rfl) (by kernel_rfl) (by kernel_rfl) (by kernel_rfl) (fun _ _ _ h => h) (Or.inl ⟨by rfl, ?_⟩) hH0 ?_
  rotate_left
  · (intro w hSw; (try dsimp only at hSw); go_simp; try (with_reducible rfl))
  try simp only [Act.put, List.getElem_toArray, List.getElem_cons_zero, List.getElem_cons_succ, List.setIfInBounds_toArray, List.set_cons_zero, List.set_cons_succ]
  refine AnyJ.take (i := 5) (v := ?_) (T := [6, 9, 12]) rfl (by kernel_rfl) (by kernel_rfl) (by kernel_rfl) (by kernel_rfl) (fun _ _ _ h => h) (Or.inl ⟨by rfl, ?_⟩) hH0 ?_
  rotate_left
  · (intro w hSw; (try dsimp only at hSw); go_simp; try (with_reducible rfl))
  try simp only [Act.put, List.getElem_toArray, List.getElem_cons_zero, List.getElem_cons_succ, List.setIfInBounds_toArray, List.set_cons_zero, List.set_cons_succ]
  refine AnyJ.take (i := 7) (v := ?_) (T := [8, 9, 12]) rfl (by kernel_rfl) (by kernel_rfl) (by kernel_rfl) (by kernel_rfl) (fun _ _ _ h => h) (Or.inl ⟨by rfl, ?_⟩) hH0 ?_
  rotate_left
  · (intro w hSw; (try dsimp only at hSw); go_simp; try (with_reducible rfl))
  try simp only [Act.put, List.getElem_toArray, List.getElem_cons_zero, List.getElem_cons_succ, List.setIfInBounds_toArray, List.set_cons_zero, List.set_cons_succ]
  refine AnyJ.two (i := 1) (j := 8) (by kernel_rfl) rfl rfl (fun K hK => ?_) (fun K hK => ?_)
  · simp only [List.getElem_toArray, List.getElem_cons_zero, List.getElem_cons_succ]
    go_simp
    refine hK.out _ _ (evS_go hH0 (below_new _ _ _)) (fun hH1 => ?_)
    clear hK K hH0
    try simp only [Act.put, List.setIfInBounds_toArray, List.set_cons_zero, List.set_cons_succ]
    obtain ⟨gE, hgE⟩ : ∃ g, g = v0.heap.size := ⟨_, rfl⟩
    have HL1 := hid (HL0.out.trans ((below_new v0 #[] 36).mono HL0.out.size))
    have HE := hid (own_emptyE v0 w3.heap.size HL0.out.size)
    rw [← hgE] at HE
    simp only [← hgE]
    obtain ⟨v1, hvv⟩ : ∃ v, v = v0.alloc (.cells #[] 36) := ⟨_, rfl⟩
    simp only [← hvv] at HL1 hH1 HE ⊢
    have HEL := hid (show gE < v1.heap.size by rw [hvv, hgE]; simp)
    clear hvv hgE
    refine AnyJ.two (i := 6) (j := 8) (by kernel_rfl) rfl rfl (fun K hK => ?_) (fun K hK => ?_)
    · simp only [List.getElem_toArray, List.getElem_cons_zero, List.getElem_cons_succ]
      rw [if_pos (by rfl)]
      refine wpo_appEs (.tmp 21) (.tmp 25) rfl w3.heap.size (some ⟨gE, 0, none⟩) (0) 0 ([]) rfl HE.out AL w3.heap.size es.length cL es rfl rfl (HSL.out.below HL1.out) es.length (by simp) (by omega) HL1.out.size ?_
      intro B6 d6 v2 ho hg _
      have HL2 := hid (HL1.out.grown hg HL1.out.size (own_lt HE.out))
      rw [List.nil_append] at ho
      have HR6 := hid ho
      clear ho hg
      refine hK.out _ _ (HS0.out _ HL2.out) (fun hH2 => ?_)
      clear hK K hH1
      try simp only [Act.put, List.setIfInBounds_toArray, List.set_cons_zero, List.set_cons_succ]
      refine AnyJ.one (i := 8) (by kernel_rfl) rfl (fun K hK => ?_)
      simp only [List.getElem_toArray, List.getElem_cons_zero, List.getElem_cons_succ]
      go_simp
      refine hK.out _ _ (evS_go hH2 (below_new _ _ _)) (fun hH3 => ?_)
      clear hK K hH2
      try simp only [Act.put, List.setIfInBounds_toArray, List.set_cons_zero, List.set_cons_succ]
      obtain ⟨gC, hgC⟩ : ∃ g, g = v2.heap.size := ⟨_, rfl⟩
      have HL3 := hid (HL2.out.trans ((below_new v2 #[.int .i64 (p : Int), .int .i64 (o : Int), .int .u64 (h : Int), .int .u64 (a : Int), .int .i64 (x : Int)] 36).mono HL2.out.size))
      have HC := hid (show Blk (v2.alloc (.cells #[.int .i64 (p : Int), .int .i64 (o : Int), .int .u64 (h : Int), .int .u64 (a : Int), .int .i64 (x : Int)] 36)) v2.heap.size #[.int .i64 (p : Int), .int .i64 (o : Int), .int .u64 (h : Int), .int .u64 (a : Int), .int .i64 (x : Int)] 36 from heap_alloc_new v2 _)
      rw [← hgC] at HC
      have HR6 := hid (own_below HR6.out (below_new v2 #[.int .i64 (p : Int), .int .i64 (o : Int), .int .u64 (h : Int), .int .u64 (a : Int), .int .i64 (x : Int)] 36))
      simp only [← hgC]
      obtain ⟨v3, hvv⟩ : ∃ v, v = v2.alloc (.cells #[.int .i64 (p : Int), .int .i64 (o : Int), .int .u64 (h : Int), .int .u64 (a : Int), .int .i64 (x : Int)] 36) := ⟨_, rfl⟩
      simp only [← hvv] at HL3 hH3 HR6 HC ⊢
      have HC0 := HC
      clear hvv hgC
      refine AnyJ.one (i := 9) (by kernel_rfl) rfl (fun K hK => ?_)
      simp only [List.getElem_toArray, List.getElem_cons_zero, List.getElem_cons_succ]
      rw [if_pos (by rfl)]
      refine wpo_appEs (.tmp 26) (.tmp 28) rfl w3.heap.size B6 (es.length) d6 (es) rfl HR6.out (some ⟨gC, 0, none⟩) (gC + 1) 1 1 [(p, o, h, a, x)] rfl rfl (sl_blkE HC.out) (es.length + 1) rfl (by omega) HL3.out.size ?_
      intro B9 d9 v4 ho hg _
      have HL4 := hid (HL3.out.grown hg HL3.out.size (own_lt HR6.out))
      have HR9 := hid ho
      clear ho hg
      refine hK.out _ _ (HS0.out _ HL4.out) (fun hH4 => ?_)
      clear hK K hH3
      try simp only [Act.put, List.setIfInBounds_toArray, List.set_cons_zero, List.set_cons_succ]
      refine AnyJ.take (i := 10) (v := ?_) (T := [11, 12]) rfl (by kernel_rfl) (by kernel_rfl) (by kernel_rfl) (by kernel_rfl) (fun _ _ _ h => h) (Or.inl ⟨by rfl, ?_⟩) hH4 ?_
      rotate_left
      · (intro w hSw; (try dsimp only at hSw); go_simp; try (with_reducible rfl))
      try simp only [Act.put, List.getElem_toArray, List.getElem_cons_zero, List.getElem_cons_succ, List.setIfInBounds_toArray, List.set_cons_zero, List.set_cons_succ]
      refine AnyJ.take (i := 11) (v := ?_) (T := [12]) rfl (by kernel_rfl) (by kernel_rfl) (by kernel_rfl) (by kernel_rfl) (fun _ _ _ h => h) (Or.inl ⟨by rfl, ?_⟩) hH4 ?_
      rotate_left
      · (intro w hSw; (try dsimp only at hSw); go_simp; try (with_reducible rfl))
      try simp only [Act.put, List.getElem_toArray, List.getElem_cons_zero, List.getElem_cons_succ, List.setIfInBounds_toArray, List.set_cons_zero, List.set_cons_succ]
      have hfz : v4.frozen? ⟨g, 1, none⟩ = false := (HBK.out.below (HL4.out.mono (Nat.le_refl _))).frozen 1
      have hcl := hH4.1
      refine AnyJ.last (by kernel_rfl) rfl (fun K hK => ?_)
      simp only [List.getElem_toArray, List.getElem_cons_zero, List.getElem_cons_succ]
      go_simp
      refine hK.out _ _ ?_
      clear hK K
      try simp only [Act.put, List.setIfInBounds_toArray, List.set_cons_zero, List.set_cons_succ]
      refine AnyJ.done (by kernel_rfl) ?_ _
      refine NoPanic.normal ?_
      clear hH4 hcl hfz
      obtain ⟨v9, hv9⟩ : ∃ v9, v9 = v4.setCell ⟨g, 1, none⟩ (.slice B9 (es.length + 1) d9) := ⟨_, rfl⟩
      have HV9 := hid hv9
      clear hv9
      go_wp2_with fail
      simp only [← HV9.out]
      go_ret
      exact ⟨rfl, by rw [HV9.out]; exact HRF.out.pushed HB03.out HL4.out HR9.out⟩
    · simp only [List.getElem_toArray, List.getElem_cons_zero, List.getElem_cons_succ]
      go_simp
      refine hK.out _ _ (evS_go hH1 (below_new _ _ _)) (fun hH2 => ?_)
      clear hK K hH1
      try simp only [Act.put, List.setIfInBounds_toArray, List.set_cons_zero, List.set_cons_succ]
      obtain ⟨gC, hgC⟩ : ∃ g, g = v1.heap.size := ⟨_, rfl⟩
      have HL2 := hid (HL1.out.trans ((below_new v1 #[.int .i64 (p : Int), .int .i64 (o : Int), .int .u64 (h : Int), .int .u64 (a : Int), .int .i64 (x : Int)] 36).mono HL1.out.size))
      have HC := hid (show Blk (v1.alloc (.cells #[.int .i64 (p : Int), .int .i64 (o : Int), .int .u64 (h : Int), .int .u64 (a : Int), .int .i64 (x : Int)] 36)) v1.heap.size #[.int .i64 (p : Int), .int .i64 (o : Int), .int .u64 (h : Int), .int .u64 (a : Int), .int .i64 (x : Int)] 36 from heap_alloc_new v1 _)
      rw [← hgC] at HC
      have HE := hid (own_below HE.out (below_new v1 #[.int .i64 (p : Int), .int .i64 (o : Int), .int .u64 (h : Int), .int .u64 (a : Int), .int .i64 (x : Int)] 36))
      have hCE : gC ≠ gE := by have := HEL.out; omega
      simp only [← hgC]
      obtain ⟨v2, hvv⟩ : ∃ v, v = v1.alloc (.cells #[.int .i64 (p : Int), .int .i64 (o : Int), .int .u64 (h : Int), .int .u64 (a : Int), .int .i64 (x : Int)] 36) := ⟨_, rfl⟩
      simp only [← hvv] at HL2 hH2 HE HC ⊢
      have HC0 := HC
      clear hvv hgC
      refine AnyJ.one (i := 6) (by kernel_rfl) rfl (fun K hK => ?_)
      simp only [List.getElem_toArray, List.getElem_cons_zero, List.getElem_cons_succ]
      rw [if_pos (by rfl)]
      refine wpo_appEs (.tmp 21) (.tmp 25) rfl w3.heap.size (some ⟨gE, 0, none⟩) (0) 0 ([]) rfl HE.out AL w3.heap.size es.length cL es rfl rfl (HSL.out.below HL2.out) es.length (by simp) (by omega) HL2.out.size ?_
      intro B6 d6 v3 ho hg _
      have HL3 := hid (HL2.out.grown hg HL2.out.size (own_lt HE.out))
      rw [List.nil_append] at ho
      have HR6 := hid ho
      have HC := hid (show Blk v3 gC #[.int .i64 (p : Int), .int .i64 (o : Int), .int .u64 (h : Int), .int .u64 (a : Int), .int .i64 (x : Int)] 36 from (hg.block gC HC.out.lt (fun e => hCE (by injection e))).trans HC.out)
      clear ho hg
      refine hK.out _ _ (HS0.out _ HL3.out) (fun hH3 => ?_)
      clear hK K hH2
      try simp only [Act.put, List.setIfInBounds_toArray, List.set_cons_zero, List.set_cons_succ]
      refine AnyJ.one (i := 9) (by kernel_rfl) rfl (fun K hK => ?_)
      simp only [List.getElem_toArray, List.getElem_cons_zero, List.getElem_cons_succ]
      rw [if_pos (by rfl)]
      refine wpo_appEs (.tmp 26) (.tmp 28) rfl w3.heap.size B6 (es.length) d6 (es) rfl HR6.out (some ⟨gC, 0, none⟩) (gC + 1) 1 1 [(p, o, h, a, x)] rfl rfl (sl_blkE HC.out) (es.length + 1) rfl (by omega) HL3.out.size ?_
      intro B9 d9 v4 ho hg _
      have HL4 := hid (HL3.out.grown hg HL3.out.size (own_lt HR6.out))
      have HR9 := hid ho
      clear ho hg
      refine hK.out _ _ (HS0.out _ HL4.out) (fun hH4 => ?_)
      clear hK K hH3
      try simp only [Act.put, List.setIfInBounds_toArray, List.set_cons_zero, List.set_cons_succ]
      refine AnyJ.take (i := 10) (v := ?_) (T := [11, 12]) rfl (by kernel_rfl) (by kernel_rfl) (by kernel_rfl) (by kernel_rfl) (fun _ _ _ h => h) (Or.inl ⟨by rfl, ?_⟩) hH4 ?_
      rotate_left
      · (intro w hSw; (try dsimp only at hSw); go_simp; try (with_reducible rfl))
      try simp only [Act.put, List.getElem_toArray, List.getElem_cons_zero, List.getElem_cons_succ, List.setIfInBounds_toArray, List.set_cons_zero, List.set_cons_succ]
      refine AnyJ.take (i := 11) (v := ?_) (T := [12]) rfl (by kernel_rfl) (by kernel_rfl) (by kernel_rfl) (by kernel_rfl) (fun _ _ _ h => h) (Or.inl ⟨by rfl, ?_⟩) hH4 ?_
      rotate_left
      · (intro w hSw; (try dsimp only at hSw); go_simp; try (with_reducible rfl))
      try simp only [Act.put, List.getElem_toArray, List.getElem_cons_zero, List.getElem_cons_succ, List.setIfInBounds_toArray, List.set_cons_zero, List.set_cons_succ]
      have hfz : v4.frozen? ⟨g, 1, none⟩ = false := (HBK.out.below (HL4.out.mono (Nat.le_refl _))).frozen 1
      have hcl := hH4.1
      refine AnyJ.last (by kernel_rfl) rfl (fun K hK => ?_)
      simp only [List.getElem_toArray, List.getElem_cons_zero, List.getElem_cons_succ]
      go_simp
      refine hK.out _ _ ?_
      clear hK K
      try simp only [Act.put, List.setIfInBounds_toArray, List.set_cons_zero, List.set_cons_succ]
      refine AnyJ.done (by kernel_rfl) ?_ _
      refine NoPanic.normal ?_
      clear hH4 hcl hfz
      obtain ⟨v9, hv9⟩ : ∃ v9, v9 = v4.setCell ⟨g, 1, none⟩ (.slice B9 (es.length + 1) d9) := ⟨_, rfl⟩
      have HV9 := hid hv9
      clear hv9
      go_wp2_with fail
      simp only [← HV9.out]
      go_ret
      exact ⟨rfl, by rw [HV9.out]; exact HRF.out.pushed HB03.out HL4.out HR9.out⟩
  · simp only [List.getElem_toArray, List.getElem_cons_zero, List.getElem_cons_succ]
    go_simp
    refine hK.out _ _ (evS_go hH0 (below_new _ _ _)) (fun hH1 => ?_)
    clear hK K hH0
    try simp only [Act.put, List.setIfInBounds_toArray, List.set_cons_zero, List.set_cons_succ]
    obtain ⟨gC, hgC⟩ : ∃ g, g = v0.heap.size := ⟨_, rfl⟩
    have HL1 := hid (HL0.out.trans ((below_new v0 #[.int .i64 (p : Int), .int .i64 (o : Int), .int .u64 (h : Int), .int .u64 (a : Int), .int .i64 (x : Int)] 36).mono HL0.out.size))
    have HC := hid (show Blk (v0.alloc (.cells #[.int .i64 (p : Int), .int .i64 (o : Int), .int .u64 (h : Int), .int .u64 (a : Int), .int .i64 (x : Int)] 36)) v0.heap.size #[.int .i64 (p : Int), .int .i64 (o : Int), .int .u64 (h : Int), .int .u64 (a : Int), .int .i64 (x : Int)] 36 from heap_alloc_new v0 _)
    rw [← hgC] at HC
    simp only [← hgC]
    obtain ⟨v1, hvv⟩ : ∃ v, v = v0.alloc (.cells #[.int .i64 (p : Int), .int .i64 (o : Int), .int .u64 (h : Int), .int .u64 (a : Int), .int .i64 (x : Int)] 36) := ⟨_, rfl⟩
    simp only [← hvv] at HL1 hH1 HC ⊢
    have HC0 := HC
    clear hvv hgC
    refine AnyJ.one (i := 1) (by kernel_rfl) rfl (fun K hK => ?_)
    simp only [List.getElem_toArray, List.getElem_cons_zero, List.getElem_cons_succ]
    go_simp
    refine hK.out _ _ (evS_go hH1 (below_new _ _ _)) (fun hH2 => ?_)
    clear hK K hH1
    try simp only [Act.put, List.setIfInBounds_toArray, List.set_cons_zero, List.set_cons_succ]
    obtain ⟨gE, hgE⟩ : ∃ g, g = v1.heap.size := ⟨_, rfl⟩
    have HL2 := hid (HL1.out.trans ((below_new v1 #[] 36).mono HL1.out.size))
    have HE := hid (own_emptyE v1 w3.heap.size HL1.out.size)
    have HC := hid (Blk.below HC.out (below_new v1 #[] 36))
    have hCE : gC ≠ gE := by have := HC0.out.lt; omega
    rw [← hgE] at HE
    simp only [← hgE]
    obtain ⟨v2, hvv⟩ : ∃ v, v = v1.alloc (.cells #[] 36) := ⟨_, rfl⟩
    simp only [← hvv] at HL2 hH2 HE HC ⊢
    have HEL := hid (show gE < v2.heap.size by rw [hvv, hgE]; simp)
    clear hvv hgE
    refine AnyJ.one (i := 6) (by kernel_rfl) rfl (fun K hK => ?_)
    simp only [List.getElem_toArray, List.getElem_cons_zero, List.getElem_cons_succ]
    rw [if_pos (by rfl)]
    refine wpo_appEs (.tmp 21) (.tmp 25) rfl w3.heap.size (some ⟨gE, 0, none⟩) (0) 0 ([]) rfl HE.out AL w3.heap.size es.length cL es rfl rfl (HSL.out.below HL2.out) es.length (by simp) (by omega) HL2.out.size ?_
    intro B6 d6 v3 ho hg _
    have HL3 := hid (HL2.out.grown hg HL2.out.size (own_lt HE.out))
    rw [List.nil_append] at ho
    have HR6 := hid ho
    have HC := hid (show Blk v3 gC #[.int .i64 (p : Int), .int .i64 (o : Int), .int .u64 (h : Int), .int .u64 (a : Int), .int .i64 (x : Int)] 36 from (hg.block gC HC.out.lt (fun e => hCE (by injection e))).trans HC.out)
    clear ho hg
    refine hK.out _ _ (HS0.out _ HL3.out) (fun hH3 => ?_)
    clear hK K hH2
    try simp only [Act.put, List.setIfInBounds_toArray, List.set_cons_zero, List.set_cons_succ]
    refine AnyJ.one (i := 9) (by kernel_rfl) rfl (fun K hK => ?_)
    simp only [List.getElem_toArray, List.getElem_cons_zero, List.getElem_cons_succ]
    rw [if_pos (by rfl)]
    refine wpo_appEs (.tmp 26) (.tmp 28) rfl w3.heap.size B6 (es.length) d6 (es) rfl HR6.out (some ⟨gC, 0, none⟩) (gC + 1) 1 1 [(p, o, h, a, x)] rfl rfl (sl_blkE HC.out) (es.length + 1) rfl (by omega) HL3.out.size ?_
    intro B9 d9 v4 ho hg _
    have HL4 := hid (HL3.out.grown hg HL3.out.size (own_lt HR6.out))
    have HR9 := hid ho
    clear ho hg
    refine hK.out _ _ (HS0.out _ HL4.out) (fun hH4 => ?_)
    clear hK K hH3
    try simp only [Act.put, List.setIfInBounds_toArray, List.set_cons_zero, List.set_cons_succ]
    refine AnyJ.take (i := 10) (v := ?_) (T := [11, 12]) rfl (by kernel_rfl) (by kernel_rfl) (by kernel_rfl) (by kernel_rfl) (fun _ _ _ h => h) (Or.inl ⟨by rfl, ?_⟩) hH4 ?_
    rotate_left
    · (intro w hSw; (try dsimp only at hSw); go_simp; try (with_reducible rfl))
    try simp only [Act.put, List.getElem_toArray, List.getElem_cons_zero, List.getElem_cons_succ, List.setIfInBounds_toArray, List.set_cons_zero, List.set_cons_succ]
    refine AnyJ.take (i := 11) (v := ?_) (T := [12]) rfl (by kernel_rfl) (by kernel_rfl) (by kernel_rfl) (by kernel_rfl) (fun _ _ _ h => h) (Or.inl ⟨by rfl, ?_⟩) hH4 ?_
    rotate_left
    · (intro w hSw; (try dsimp only at hSw); go_simp; try (with_reducible rfl))
    try simp only [Act.put, List.getElem_toArray, List.getElem_cons_zero, List.getElem_cons_succ, List.setIfInBounds_toArray, List.set_cons_zero, List.set_cons_succ]
    have hfz : v4.frozen? ⟨g, 1, none⟩ = false := (HBK.out.below (HL4.out.mono (Nat.le_refl _))).frozen 1
    have hcl := hH4.1
    refine AnyJ.last (by kernel_rfl) rfl (fun K hK => ?_)
    simp only [List.getElem_toArray, List.getElem_cons_zero, List.getElem_cons_succ]
    go_simp
    refine hK.out _ _ ?_
    clear hK K
    try simp only [Act.put, List.setIfInBounds_toArray, List.set_cons_zero, List.set_cons_succ]
    refine AnyJ.done (by kernel_rfl) ?_ _
    refine NoPanic.normal ?_
    clear hH4 hcl hfz
    obtain ⟨v9, hv9⟩ : ∃ v9, v9 = v4.setCell ⟨g, 1, none⟩ (.slice B9 (es.length + 1) d9) := ⟨_, rfl⟩
    have HV9 := hid hv9
    clear hv9
    go_wp2_with fail
    simp only [← HV9.out]
    go_ret
    exact ⟨rfl, by rw [HV9.out]; exact HRF.out.pushed HB03.out HL4.out HR9.out⟩

set_option maxRecDepth 100000 in
set_option maxHeartbeats 2000000 in
theorem rappend_full (G : Nat → Prop) (g cap : Nat) (es : List Ev) (ms : List Int) (p o h a x : Nat) (w : World) (hf : RefAt w G g cap es ms) (hr : Right (p, o, h, a, x)) (hm : es.length ≤ 1000) (hc : cntE (p, o, h, a, x) = true) (hroom : ¬ recN es p < cap) :
    Calls Try.prog 28 #[.pointer (some ⟨g, 0, none⟩), evv p o h a x] w fun e w' => e = .returned (.int .i64 19) ∧ Below w.heap.size w w' := by
  have HCK := hid (rcheck_yes (p : Int) (o : Int) (x : Int) (h : Int) (a : Int) (w.alloc (.cells #[.int .i64 (p : Int), .int .i64 (o : Int), .int .u64 (h : Int), .int .u64 (a : Int), .int .i64 (x : Int)] 36)) hr.1)
  have HX := hid (ev_new p o h a x w)
  have HB := hid (below_new w #[.int .i64 (p : Int), .int .i64 (o : Int), .int .u64 (h : Int), .int .u64 (a : Int), .int .i64 (x : Int)] 36)
  have HRF := hid hf
  clear hf
  unfold evv at HCK ⊢
  go_enter Try.func28, Try.ntmps28
  go_wp2_with fail
  refine HCK.out.mono ?_
  rintro e w1 ⟨rfl, hb1⟩
  have HB1 := hid (below_go HB.out hb1)
  have HX1 := hid (ev_keep HX.out hb1)
  clear hb1 HCK
  have HCT := hid (rcounts_any p o h a x w1)
  rw [cnt_dec (p, o, h, a, x)] at HCT
  unfold evv at HCT
  obtain ⟨⟨f0, f1, f2, f3, f4⟩, hg1⟩ := HX1.out
  go_wp2_with fail
  clear f0 f1 f2 f3 f4 hg1
  refine HCT.out.mono ?_
  rintro e w2 ⟨rfl, hb2⟩
  have HB2 := hid (below_go HB1.out hb2)
  have HX2 := hid (ev_keep HX1.out hb2)
  clear hb2 HCT
  rw [hc]
  have HRM := hid (rroom_any G g cap es ms p w2 (HRF.out.below HB2.out) hm)
  rw [show decide (recN es p < cap) = false by simpa using hroom] at HRM
  obtain ⟨⟨f0, f1, f2, f3, f4⟩, hg2⟩ := HX2.out
  go_wp2_with fail
  clear f0 f1 f2 f3 f4 hg2
  refine HRM.out.mono ?_
  rintro e w3 ⟨rfl, hb3⟩
  have HB03 := hid (below_go HB2.out hb3)
  go_wp2_with fail
  go_ret
  exact ⟨rfl, HB03.out⟩

set_option maxRecDepth 100000 in
theorem rappend_bad (g : Nat) (p o x : Int) (h a : Int) (w : World) (hr : ¬ EvOK p o x) :
    Calls Try.prog 28 #[.pointer (some ⟨g, 0, none⟩), evv p o h a x] w fun e w' => e = .returned (.int .i64 1) ∧ Below w.heap.size w w' := by
  have HCK := hid (rcheck_no p o x h a (w.alloc (.cells #[.int .i64 p, .int .i64 o, .int .u64 h, .int .u64 a, .int .i64 x] 36)) hr)
  have HB := hid (below_new w #[.int .i64 p, .int .i64 o, .int .u64 h, .int .u64 a, .int .i64 x] 36)
  unfold evv at HCK ⊢
  go_enter Try.func28, Try.ntmps28
  go_wp2_with fail
  refine HCK.out.mono ?_
  rintro e w1 ⟨rfl, hb1⟩
  have HB1 := hid (below_go HB.out hb1)
  go_wp2_with fail
  go_ret
  exact ⟨rfl, HB1.out⟩
theorem rappend_any (G : Nat → Prop) (g cap : Nat) (es : List Ev) (ms : List Int) (p o h a x : Nat) (w : World) (hf : RefAt w G g cap es ms) (hr : Right (p, o, h, a, x)) (hm : es.length ≤ 1000) :
    Calls Try.prog 28 #[.pointer (some ⟨g, 0, none⟩), evv p o h a x] w fun e w' => e = .returned (.int .i64 (apR cap es (p, o, h, a, x))) ∧ RefStep w G g cap (apE cap es (p, o, h, a, x)) ms w' := by
  unfold apR apE
  by_cases hc : cntE (p, o, h, a, x) = true
  · by_cases hroom : recN es p < cap
    · rw [if_neg (by simp [hroom]), if_neg (by simp [hroom])]
      exact rappend_ok G g cap es ms p o h a x w hf hr hm hc hroom
    · rw [if_pos (by simp [hc, hroom]), if_pos (by simp [hc, hroom])]
      refine (rappend_full G g cap es ms p o h a x w hf hr hm hc hroom).mono ?_
      rintro e w' ⟨rfl, hb⟩
      exact ⟨rfl, G, hf.below hb, Turn.of hb, fun _ h => .inl h⟩
  · have hc' : cntE (p, o, h, a, x) = false := by simpa using hc
    rw [if_neg (by simp [hc']), if_neg (by simp [hc'])]
    exact rappend_free G g cap es ms p o h a x w hf hr hm hc'
end Go.Proofs.Ytmhmaodnkifcaaa
