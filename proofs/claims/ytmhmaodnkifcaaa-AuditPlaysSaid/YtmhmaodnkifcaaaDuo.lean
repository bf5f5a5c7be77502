/-
  A log and its model side by side, and the tape that they are played from.
-/
import Derived.Test.YtmhmaodnkifcaaaMiss
import Derived.Test.YtmhmaodnkifcaaaTapeOf
namespace Go.Proofs.Ytmhmaodnkifcaaa
open Go.RowKit
set_option linter.unusedSimpArgs false
set_option linter.unusedVariables false

theorem evs_int {es : List Ev} {u : Value} (h : u ∈ evs es) : ∃ k z, u = .int k z := by
  unfold evs at h
  obtain ⟨e, _, h⟩ := List.mem_flatMap.1 h
  simp [evc] at h
  rcases h with h | h | h | h | h <;> exact ⟨_, _, h⟩
/-- The model's misses, one more. -/
theorem RefAt.missed {w w3 v : World} {G : Nat → Prop} {g cap : Nat} {es : List Ev} {ms ms' : List Int} {A9 : Option Addr} {n9 c9 : Nat} (h : RefAt w G g cap es ms) (hb : Below w.heap.size w w3) (hv : Below w3.heap.size w3 v) (ho : v.ownsRow w3.heap.size 3 1 (.slice A9 n9 c9) n9 (nums .i64 ms')) (hn : ms'.length = n9) :
    RefStep w G g cap es ms' (v.setCell ⟨g, 2, none⟩ (.slice A9 n9 c9)) := by
  subst hn
  have hlt := h.lt
  obtain ⟨AL, cL, AM, cM, hbk, h1, h2, h3, h4, h5, h6⟩ := h.below (below_go hb hv)
  have hgl := hlt g h5
  have hs := hb.size
  have hs2 := hv.size
  have ne : ∀ b, (Value.slice A9 ms'.length c9).ownBlock = some b → b ≠ g := fun b e e2 => by have := own_lt ho b e; omega
  have k : ∀ b, b ≠ g → (v.setCell ⟨g, 2, none⟩ (.slice A9 ms'.length c9)).heap[b]? = v.heap[b]? := fun b hb => Below.heap_setCell _ _ _ b hb
  refine ⟨fun b => G b ∨ (Value.slice A9 ms'.length c9).ownBlock = some b, ⟨AL, cL, A9, c9, hbk.set 2 _, ?_, ((own_slG ho).kept fun b e => k b (ne b e)).more fun b e => .inr e, h3, own_le ho, .inl h5, ?_⟩, ?_, ?_⟩
  · rcases h1 with h1 | ⟨b, off, e1, e2, e3⟩
    · exact .inl h1
    · refine .inr ⟨b, off, e1, .inl e2, fun j u hu => ?_⟩
      have hc := e3 j u hu
      by_cases hbg : b = g
      · subst hbg
        obtain ⟨ki, z, rfl⟩ := evs_int (List.mem_of_getElem? hu)
        by_cases hoj : off + j = 2
        · rw [hoj, hbk.cell 2 rfl] at hc
          cases hc
        · rw [World.cell?_setCell_other]
          · exact hc
          · intro e; injection e; omega
      · exact (World.cell?_of_block (a := ⟨b, off + j, none⟩) (k b hbg)).trans hc
  · intro b hb
    rw [heap_set]
    rcases hb with hb | hb
    · have := hlt b hb; omega
    · exact (ho.lt b hb).2
  · exact (Turn.of (F := fun k => k = g) (below_go hb hv)).grown (grown_set v g 2 _) fun j e _ => by injection e with e; exact e.symm
  · intro b hb
    rcases hb with hb | hb
    · exact .inl hb
    · have := own_lt ho b hb; exact .inr (by omega)

/-- An event that fits, or one that does not. -/
def EvIs (ev : Option Ev) (p o h a x : Int) : Prop := match ev with
  | some e => (p = (e.1 : Int) ∧ o = (e.2.1 : Int) ∧ h = (e.2.2.1 : Int) ∧ a = (e.2.2.2.1 : Int) ∧ x = (e.2.2.2.2 : Int)) ∧ Right e
  | none => ¬ EvOK p o x
def oR (cap : Nat) (es : List Ev) : Option Ev → Nat
  | some e => apR cap es e
  | none => 1
def oE (cap : Nat) (es : List Ev) : Option Ev → List Ev
  | some e => apE cap es e
  | none => es
theorem evIs_any (p o x : Int) (h a : Nat) (hh : h < 18446744073709551616) (ha : a < 18446744073709551616) : ∃ ev, EvIs ev p o h a x := by
  by_cases ok : EvOK p o x
  · obtain ⟨p', rfl⟩ := Int.eq_ofNat_of_zero_le (show 0 ≤ p by unfold EvOK at ok; omega)
    obtain ⟨o', rfl⟩ := Int.eq_ofNat_of_zero_le (show 0 ≤ o by unfold EvOK at ok; omega)
    obtain ⟨x', rfl⟩ := Int.eq_ofNat_of_zero_le (show 0 ≤ x by unfold EvOK at ok; omega)
    exact ⟨some (p', o', h, a, x'), ⟨rfl, rfl, rfl, rfl, rfl⟩, ok, hh, ha⟩
  · exact ⟨none, ok⟩
theorem oE_len (cap : Nat) (es : List Ev) (ev : Option Ev) : (oE cap es ev).length ≤ es.length + 1 := by
  cases ev with
  | none => simp [oE]
  | some e => unfold oE apE; simp only; split <;> simp
theorem append_ev (F : Nat → Prop) (g cap q : Nat) (es : List Ev) (mis : Int → Nat) (ev : Option Ev) (p o h a x : Int) (w : World) (hl : LogAt w F g cap es mis q) (he : EvIs ev p o h a x) (hq : q < 50000) :
    Calls Try.prog 14 #[.pointer (some ⟨g, 0, none⟩), evv p o h a x] w fun e w' => e = .returned (.int .i64 (oR cap es ev)) ∧ Step w F g cap (oE cap es ev) (recN (oE cap es ev)) mis (q + 1) w' := by
  cases ev with
  | some e =>
    obtain ⟨p', o', h', a', x'⟩ := e
    obtain ⟨⟨rfl, rfl, rfl, rfl, rfl⟩, hr⟩ := he
    exact append_any F g cap q es mis p' o' h' a' x' w hl hr hq
  | none =>
    refine (append_bad g p o x h a w he).mono ?_
    rintro e w' ⟨rfl, hb⟩
    exact ⟨rfl, F, (hl.below hb).more (by omega), Turn.of hb, fun _ h => .inl h⟩
theorem rappend_ev (G : Nat → Prop) (g cap : Nat) (es : List Ev) (ms : List Int) (ev : Option Ev) (p o h a x : Int) (w : World) (hf : RefAt w G g cap es ms) (he : EvIs ev p o h a x) (hm : es.length ≤ 1000) :
    Calls Try.prog 28 #[.pointer (some ⟨g, 0, none⟩), evv p o h a x] w fun e w' => e = .returned (.int .i64 (oR cap es ev)) ∧ RefStep w G g cap (oE cap es ev) ms w' := by
  cases ev with
  | some e =>
    obtain ⟨p', o', h', a', x'⟩ := e
    obtain ⟨⟨rfl, rfl, rfl, rfl, rfl⟩, hr⟩ := he
    exact rappend_any G g cap es ms p' o' h' a' x' w hf hr hm
  | none =>
    refine (rappend_bad g p o x h a w he).mono ?_
    rintro e w' ⟨rfl, hb⟩
    exact ⟨rfl, G, hf.below hb, Turn.of hb, fun _ h => .inl h⟩

/-- A log in block g, its model in block gm, and a tape in blocks from lo up to hi: all three began before the world w0. -/
structure Duo (w0 : World) (lo hi gt n g gm cap : Nat) (es : List Ev) (mis : Int → Nat) (q : Nat) (es2 : List Ev) (ms : List Int) (i : Nat) (F G : Nat → Prop) (W : World) : Prop where
  log : LogAt W F g cap es mis q
  ref : RefAt W G gm cap es2 ms
  tp : Tp W lo hi gt n i
  apart : ∀ k, F k → ¬ G k
  newF : ∀ k, F k → k = g ∨ w0.heap.size ≤ k
  newG : ∀ k, G k → k = gm ∨ w0.heap.size ≤ k
  gl : (g < lo ∨ hi ≤ g) ∧ (gm < lo ∨ hi ≤ gm) ∧ hi ≤ w0.heap.size ∧ g < w0.heap.size ∧ gm < w0.heap.size
  turn : Turn (fun k => k = g ∨ k = gm ∨ (lo ≤ k ∧ k < hi)) w0 W
section
variable {w0 W W' : World} {lo hi gt n g gm cap : Nat} {es es' : List Ev} {mis mis' : Int → Nat} {q q' : Nat} {es2 es2' : List Ev} {ms ms' : List Int} {i i' : Nat} {F G : Nat → Prop}
theorem Duo.fs (h : Duo w0 lo hi gt n g gm cap es mis q es2 ms i F G W) : ∀ k, F k → k < W.heap.size := by
  obtain ⟨_, _, _, _, _, _, _, hX, _⟩ := h.log.open
  exact hX.fs
theorem Duo.below (h : Duo w0 lo hi gt n g gm cap es mis q es2 ms i F G W) (hb : Below W.heap.size W W') : Duo w0 lo hi gt n g gm cap es mis q es2 ms i F G W' :=
  ⟨h.log.below hb, h.ref.below hb, h.tp.below hb, h.apart, h.newF, h.newG, h.gl, h.turn.trans (Turn.of (F := fun _ => False) hb) fun _ _ e => e.elim⟩
theorem Duo.tape (h : Duo w0 lo hi gt n g gm cap es mis q es2 ms i F G W) (hg : W.grownBy W' (some gt)) (ht : Tp W' lo hi gt n i') : Duo w0 lo hi gt n g gm cap es mis q es2 ms i' F G W' := by
  have hgt : lo ≤ gt ∧ gt < hi := by obtain ⟨_, _, _, _, _, h1, h2, _⟩ := h.tp; exact ⟨h1, h2⟩
  obtain ⟨g1, g2, g3, g4, g5⟩ := h.gl
  have nf : ∀ k, F k → k ≠ gt := fun k hk e => by rcases h.newF k hk with h | h <;> omega
  have ng : ∀ k, G k → k ≠ gt := fun k hk e => by rcases h.newG k hk with h | h <;> omega
  exact ⟨h.log.kept (fun b e => hg.block b (h.fs b e) (fun e2 => nf b e (by injection e2))) hg.size, h.ref.kept (fun b e => hg.block b (h.ref.lt b e) (fun e2 => ng b e (by injection e2))) hg.size, ht, h.apart, h.newF, h.newG, h.gl,
    h.turn.grown hg fun j e _ => by injection e with e; exact .inr (.inr (by omega))⟩
theorem Duo.step1 (h : Duo w0 lo hi gt n g gm cap es mis q es2 ms i F G W) (hs : Step W F g cap es' (recN es') mis' q' W') : ∃ F', Duo w0 lo hi gt n g gm cap es' mis' q' es2 ms i F' G W' ∧ Turn F W W' := by
  obtain ⟨F', hl, ht, hF⟩ := hs
  obtain ⟨g1, g2, g3, g4, g5⟩ := h.gl
  have hsz := h.turn.size
  refine ⟨F', ⟨hl, h.ref.kept (fun b e => ht.block b (h.ref.lt b e) (fun e2 => h.apart b e2 e)) ht.size, h.tp.kept (fun k h1 h2 => ht.block k (by omega) (fun e => by rcases h.newF k e with h | h <;> omega)) ht.size, ?_, ?_, h.newG, h.gl, ?_⟩, ht⟩
  · intro k e1 e2
    rcases hF k e1 with e | e
    · exact h.apart k e e2
    · have := h.ref.lt k e2; omega
  · intro k e
    rcases hF k e with e | e
    · exact h.newF k e
    · exact .inr (by omega)
  · refine h.turn.trans ht fun j hj e => ?_
    rcases h.newF j e with e | e
    · exact .inl e
    · omega
theorem Duo.step2 (h : Duo w0 lo hi gt n g gm cap es mis q es2 ms i F G W) (hs : RefStep W G gm cap es2' ms' W') : ∃ G', Duo w0 lo hi gt n g gm cap es mis q es2' ms' i F G' W' ∧ Turn (fun k => k = gm) W W' := by
  obtain ⟨G', hl, ht, hG⟩ := hs
  obtain ⟨g1, g2, g3, g4, g5⟩ := h.gl
  have hsz := h.turn.size
  have hgm : G gm := by obtain ⟨_, _, _, _, _, _, _, _, _, h5, _⟩ := h.ref; exact h5
  refine ⟨G', ⟨h.log.kept (fun b e => ht.block b (h.fs b e) (fun e2 => h.apart b e (by rw [e2]; exact hgm))) ht.size, hl, h.tp.kept (fun k h1 h2 => ht.block k (by omega) (fun e => by omega)) ht.size, ?_, h.newF, ?_, h.gl, ?_⟩, ht⟩
  · intro k e1 e2
    rcases hG k e2 with e | e
    · exact h.apart k e1 e
    · have := h.fs k e1; omega
  · intro k e
    rcases hG k e with e | e
    · exact h.newG k e
    · exact .inr (by omega)
  · exact h.turn.trans ht fun j hj e => .inr (.inl e)
theorem turn_ev {X : Nat → Prop} {w w' : World} {b : Nat} {p o h a x : Int} (ht : Turn X w w') (he : EvAt b p o h a x w) (hb : ¬ X b) : EvAt b p o h a x w' := by
  obtain ⟨⟨h0, h1, h2, h3, h4⟩, hg⟩ := he
  have k := ht.block b hg hb
  exact ⟨⟨(World.cell?_of_block (a := ⟨b, 0, none⟩) k).trans h0, (World.cell?_of_block (a := ⟨b, 1, none⟩) k).trans h1, (World.cell?_of_block (a := ⟨b, 2, none⟩) k).trans h2, (World.cell?_of_block (a := ⟨b, 3, none⟩) k).trans h3, (World.cell?_of_block (a := ⟨b, 4, none⟩) k).trans h4⟩, Nat.lt_of_lt_of_le hg ht.size⟩
end
end Go.Proofs.Ytmhmaodnkifcaaa
