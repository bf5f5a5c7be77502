/-
  The log of a host: where it lies, what stays beside it; its counts.
-/
import Derived.Test.YtmhmaodnkifcaaaAuRow
import Derived.Test.YtmhmaodnkifcaaaAuDig
import Derived.Test.YtmhmaodnkifcaaaTapeEv
import Derived.Maps.OwnOps
import Derived.Maps.Views
import Derived.OneCell
namespace Go.Proofs.Ytmhmaodnkifcaaa
open Go.RowKit
set_option linter.unusedSimpArgs false
set_option linter.unusedVariables false

/-- What lies outside of F stays. -/
structure Turn (F : Nat → Prop) (w w' : World) : Prop where
  os : w'.os = w.os
  tape : w'.tape = w.tape
  output : w'.output = w.output
  size : w.heap.size ≤ w'.heap.size
  block : ∀ k, k < w.heap.size → ¬ F k → w'.heap[k]? = w.heap[k]?
theorem Turn.of {F : Nat → Prop} {w w' : World} (h : Below w.heap.size w w') : Turn F w w' := ⟨h.os, h.tape, h.output, h.size, fun k hk _ => h.block k hk⟩
theorem Turn.refl (F : Nat → Prop) (w : World) : Turn F w w := .of (Below.refl _ _)
theorem Turn.trans {F F' : Nat → Prop} {a b c : World} (h : Turn F a b) (k : Turn F' b c) (hF : ∀ j, j < a.heap.size → F' j → F j) : Turn F a c :=
  ⟨k.os.trans h.os, k.tape.trans h.tape, k.output.trans h.output, Nat.le_trans h.size k.size, fun j hj hn => (k.block j (Nat.lt_of_lt_of_le hj h.size) (fun e => hn (hF j hj e))).trans (h.block j hj hn)⟩
theorem Turn.grown {F : Nat → Prop} {a b c : World} {row : Option Nat} (h : Turn F a b) (hg : b.grownBy c row) (hF : ∀ j, row = some j → j < a.heap.size → F j) : Turn F a c :=
  ⟨hg.os.trans h.os, hg.tape.trans h.tape, hg.output.trans h.output, Nat.le_trans h.size hg.size, fun j hj hn => (hg.block j (Nat.lt_of_lt_of_le hj h.size) (fun e => hn (hF j e.symm hj))).trans (h.block j hj hn)⟩
theorem Turn.below {F : Nat → Prop} {w w' : World} {B : Nat} (h : Turn F w w') (hB : B ≤ w.heap.size) (hF : ∀ k, k < B → ¬ F k) : Below B w w' :=
  ⟨h.os, h.tape, h.output, h.size, fun k hk => h.block k (Nat.lt_of_lt_of_le hk hB) (hF k hk)⟩

/-- A map of counts; it has at most q entries, and no count is more than q. -/
def MapAt (w : World) (m : Option Nat) (f : Int → Nat) (q : Nat) : Prop :=
  (∀ k, f k ≤ q) ∧ match m with
  | none => ∀ k, f k = 0
  | some b => ∃ (n : Nat) (D : DataW Unit), n ≤ q ∧ w.ownsMap Try.prog 3 (plainElem Try.prog 3) b n D ∧ Maps.IsMap D ∧ ∀ k, D.atKey (.int .i64 k) (.lit (.int .i64 0)) = .lit (.int .i64 (f k))
theorem MapAt.kept {w w' : World} {m : Option Nat} {f : Int → Nat} {q : Nat} (h : MapAt w m f q) (hk : ∀ b, m = some b → w'.heap[b]? = w.heap[b]?) : MapAt w' m f q := by
  refine ⟨h.1, ?_⟩
  cases m with
  | none => exact h.2
  | some b =>
    obtain ⟨n, D, hn, ⟨es, ck, hh, r⟩, r2⟩ := h.2
    exact ⟨n, D, hn, ⟨es, ck, (hk b rfl).trans hh, r⟩, r2⟩
theorem MapAt.more {w : World} {m : Option Nat} {f : Int → Nat} {q q' : Nat} (h : MapAt w m f q) (hq : q ≤ q') : MapAt w m f q' := by
  refine ⟨fun k => Nat.le_trans (h.1 k) hq, ?_⟩
  cases m with
  | none => exact h.2
  | some b =>
    obtain ⟨n, D, hn, r⟩ := h.2
    exact ⟨n, D, Nat.le_trans hn hq, r⟩
/-- One more of k. -/
def bump (f : Int → Nat) (k : Int) : Int → Nat := fun j => if j = k then f j + 1 else f j

set_option maxHeartbeats 1000000 in
set_option maxRecDepth 100000 in
theorem grow_any (g off : Nat) (cs : Array Value) (t : TypeId) (m : Option Nat) (f : Int → Nat) (q : Nat) (k : Int) (w : World) (hb : Blk w g cs t) (hm : cs[off]? = some (.map m)) (hM : MapAt w m f q) (hne : m ≠ some g) (hq : q < 100000) (hk : (Lit.int .i64 k).wf = true) :
    Calls Try.prog 37 #[.pointer (some ⟨g, off, none⟩), .int .i64 k] w fun e w' => e = .returned (.tuple #[]) ∧
      ∃ b, (m = some b ∨ w.heap.size ≤ b) ∧ Blk w' g (cs.setIfInBounds off (.map (some b))) t ∧ MapAt w' (some b) (bump f k) (q + 1) ∧ Turn (fun j => j = g ∨ m = some j) w w' := by
  have hc := hb.cell off hm
  have hf := hb.frozen off
  have HB := hid hb
  have HM := hid hM
  clear hb hM
  have heq0 : ∀ W : World, (binOp .eql 32 (.map none) (.map none)).run Try.prog W = .ok (.bool true) W := fun W => by kernel_rfl
  have heq1 : ∀ (b : Nat) (W : World), (binOp .eql 32 (.map (some b)) (.map none)).run Try.prog W = .ok (.bool false) W := fun b W => by kernel_rfl
  have hmm := @run_makeMap Try.prog
  have hkey := Maps.keyOf_int_mk Try.underlying3 hk
  go_enter Try.func37, Try.ntmps37
  cases m with
  | none =>
    have hoff : off < cs.size := (Array.getElem?_eq_some_iff.1 hm).1
    have hf0 : ∀ k, f k = 0 := HM.out.2
    have hg : g < w.heap.size := HB.out.lt
    have HB1 := hid (HB.out.set off (.map (some w.heap.size)))
    have HB2 := hid (HB1.out.below ((Below.refl _ _).alloc (Nat.le_refl _) (.map #[] 0)))
    have hc1 := HB1.out.cell off (v := .map (some w.heap.size)) (by simp [hoff])
    have hg2 := grown_set w g off (.map (some w.heap.size))
    have hown := World.ownsMap_made (w.setCell ⟨g, off, none⟩ (.map (some w.heap.size))) Try.prog 3 (plainElem (H := Unit) Try.prog 3)
    rw [heap_set] at hown
    go_wp2_with (first
      | (at_lookup; refine wpList_lookup_own_int _ rfl _ _ 32 rfl 3 3 .i64 (Maps.int_keyed Try.underlying3) Try.underlying32 Try.underlying3 (Try.zeroValue3 _) w.heap.size 0 _ rfl hown _ _ rfl hkey ?_; intro c hat hwc)
      | (at_mapUpdate; refine wpList_mapUpdate_own _ rfl _ _ _ 32 rfl 3 3 (Maps.int_keyed Try.underlying3) Try.underlying32 _ w.heap.size 0 _ rfl hown (by decide) _ _ _ rfl rfl hkey _ [] (plainElem_int Try.underlying3 (wrap64_wf _)) ?_; intro w1 hown1 hgrow1))
    obtain rfl : c = 0 := by
      injection hat with h1
      injection h1 with _ h1
      exact h1.symm
    rw [show wrap64 ((0 : Int) + 1) = 1 by unfold wrap64; omega] at hown1
    have hkl : WideAt.IsKeyLit (Lit.int .i64 k) := trivial
    have hs2 : (w.setCell ⟨g, off, none⟩ (.map (some w.heap.size))).heap.size = w.heap.size := heap_set _ _ _
    go_end0
    refine ⟨rfl, w.heap.size, Nat.le_refl _, ?_, ⟨fun j => ?_, 1, _, by omega, hown1, Maps.isMap_empty.put _ _, fun j => ?_⟩, ?_⟩
    · exact (hgrow1.block g HB2.out.lt (fun e => by injection e with e; omega)).trans HB2.out
    · have := hf0 j
      unfold bump; split <;> omega
    · unfold bump
      rw [hf0 j]
      split
      · next e => subst e; exact Maps.atKey_put_same Maps.isMap_empty hkl _ _
      · next e => rw [Maps.atKey_put_other (fun h => e (by injection h))]; rfl
    · have h1 : Turn (fun j => j = g) w (w.setCell ⟨g, off, none⟩ (.map (some w.heap.size))) := (Turn.refl _ w).grown hg2 fun j e _ => by injection e with e; exact e.symm
      exact (h1.grown ((grown_of ((Below.refl _ _).alloc (Nat.le_refl _) (.map #[] 0)) none)) (fun j e _ => by cases e)).grown hgrow1 fun j e hj => by injection e with e; omega
  | some b =>
    obtain ⟨hfq, n, D, hn, hown, hD, hat0⟩ := HM.out
    go_wp2_with (first
      | (at_lookup; refine wpList_lookup_own_int _ rfl _ _ 32 rfl 3 3 .i64 (Maps.int_keyed Try.underlying3) Try.underlying32 Try.underlying3 (Try.zeroValue3 _) b n _ rfl hown _ _ rfl hkey ?_; intro c hat hwc)
      | (at_mapUpdate; refine wpList_mapUpdate_own _ rfl _ _ _ 32 rfl 3 3 (Maps.int_keyed Try.underlying3) Try.underlying32 _ b n _ rfl hown (by unfold maxLen; omega) _ _ _ rfl rfl hkey _ [] (plainElem_int Try.underlying3 (wrap64_wf _)) ?_; intro w1 hown1 hgrow1))
    obtain rfl : c = (f k : Int) := by
      have h1 := hat.symm.trans (hat0 k)
      injection h1 with h1
      injection h1 with _ h1
    have hfk := hfq k
    have e1 : wrap64 ((f k : Int) + 1) = ((f k + 1 : Nat) : Int) := by unfold wrap64; omega
    rw [e1] at hown1
    have hkl : WideAt.IsKeyLit (Lit.int .i64 k) := trivial
    have hne' : g ≠ b := fun e => hne (by rw [e])
    go_end0
    refine ⟨rfl, .inl ⟨?_, ⟨fun j => ?_, n + 1, _, by omega, hown1, hD.put _ _, fun j => ?_⟩, ?_⟩⟩
    · rw [show cs.setIfInBounds off (.map (some b)) = cs from ?_]
      · exact (hgrow1.block g HB.out.lt (fun e => hne' (by injection e))).trans HB.out
      · apply Array.ext_getElem?
        intro i
        by_cases hi : off = i
        · subst hi; rw [hm]; simp [(Array.getElem?_eq_some_iff.1 hm).1]
        · simp [Array.getElem?_setIfInBounds, hi]
    · have := hfq j
      unfold bump; split <;> omega
    · unfold bump
      split
      · next e => subst e; exact Maps.atKey_put_same hD hkl _ _
      · next e => rw [Maps.atKey_put_other (fun h => e (by injection h)), hat0]
    · exact (Turn.refl _ w).grown hgrow1 fun j e _ => .inr (by injection e)
/-- The events of a plugin that count. -/
def cntE (e : Ev) : Bool := decide (e.2.1 ≠ 32 ∧ e.2.1 ≠ 33)
def recN (es : List Ev) (k : Int) : Nat := (es.filter fun e => cntE e && decide ((e.1 : Int) = k)).length
theorem recN_snoc (es : List Ev) (e : Ev) : recN (es ++ [e]) = if cntE e then bump (recN es) e.1 else recN es := by
  funext k
  unfold recN bump
  rw [List.filter_append, List.length_append]
  by_cases h1 : cntE e = true
  · rw [if_pos h1]
    by_cases h2 : k = (e.1 : Int)
    · rw [if_pos h2]; simp [h1, h2]
    · rw [if_neg h2]
      have h2' : ¬ ((e.1 : Int) = k) := fun h => h2 h.symm
      simp [h1, h2']
  · rw [if_neg h1]
    simp [h1]
theorem recN_le (es : List Ev) (k : Int) : recN es k ≤ es.length := List.length_filter_le _ _

/-- The log in block g: its blocks are among F; q steps so far. -/
def LogF (w : World) (F : Nat → Prop) (g cap : Nat) (es : List Ev) (f mis : Int → Nat) (q : Nat) : Prop :=
  ∃ (A1 : Option Addr) (c1 : Nat) (A2 : Option Addr) (c2 d : Nat) (m4 m5 : Option Nat),
    Blk w g #[.int .i64 cap, .slice A1 es.length c1, .slice A2 (logB fStart es).length c2, .int .u64 d, .map m4, .map m5] 72 ∧
    w.ownsRow 0 36 5 (.slice A1 es.length c1) es.length (evs es) ∧
    w.ownsRow 0 5 1 (.slice A2 (logB fStart es).length c2) (logB fStart es).length (bys (logB fStart es)) ∧
    (es ≠ [] → d = endD fStart es) ∧ MapAt w m4 f q ∧ MapAt w m5 mis q ∧ (∀ b, m4 = some b → m5 ≠ some b) ∧
    (∀ e ∈ es, Right e) ∧ es.length ≤ q ∧ cap ≤ 65536 ∧
    F g ∧ (∀ b, (Value.slice A1 es.length c1).ownBlock = some b → F b) ∧ (∀ b, (Value.slice A2 (logB fStart es).length c2).ownBlock = some b → F b) ∧ (∀ b, m4 = some b → F b) ∧ (∀ b, m5 = some b → F b) ∧ (∀ b, F b → b < w.heap.size)
theorem own_kept {w w' : World} {base n size : Nat} {e : TypeId} {v : Value} {xs : List Value} (h : w.ownsRow base e size v n xs) (hk : ∀ b, v.ownBlock = some b → w'.heap[b]? = w.heap[b]?) : w'.ownsRow base e size v n xs := by
  obtain ⟨hl, h⟩ := h
  refine ⟨hl, ?_⟩
  rcases h with h | ⟨g, cap, cur, hv, hb, hh, r⟩
  · exact .inl h
  · subst hv
    exact .inr ⟨g, cap, cur, rfl, hb, (hk g rfl).trans hh, r⟩
theorem LogF.kept {w w' : World} {F : Nat → Prop} {g cap q : Nat} {es : List Ev} {f mis : Int → Nat} (h : LogF w F g cap es f mis q) (hk : ∀ b, F b → w'.heap[b]? = w.heap[b]?) (hs : w.heap.size ≤ w'.heap.size) : LogF w' F g cap es f mis q := by
  obtain ⟨A1, c1, A2, c2, d, m4, m5, hb, h1, h2, hd, h4, h5, hne, hr, hq, hcap, f0, f1, f2, f4, f5, fs⟩ := h
  exact ⟨A1, c1, A2, c2, d, m4, m5, (hk g f0).trans hb, own_kept h1 fun b e => hk b (f1 b e), own_kept h2 fun b e => hk b (f2 b e), hd, h4.kept fun b e => hk b (f4 b e), h5.kept fun b e => hk b (f5 b e), hne, hr, hq, hcap, f0, f1, f2, f4, f5, fun b e => Nat.lt_of_lt_of_le (fs b e) hs⟩
theorem LogF.below {w w' : World} {F : Nat → Prop} {g cap q : Nat} {es : List Ev} {f mis : Int → Nat} (h : LogF w F g cap es f mis q) (hb : Below w.heap.size w w') : LogF w' F g cap es f mis q := by
  have h' := h
  obtain ⟨A1, c1, A2, c2, d, m4, m5, _, h1, h2, hd, h4, h5, hne, hr, hq, hcap, f0, f1, f2, f4, f5, fs⟩ := h'
  exact h.kept (fun b e => hb.block b (fs b e)) hb.size
theorem LogF.more {w : World} {F : Nat → Prop} {g cap q q' : Nat} {es : List Ev} {f mis : Int → Nat} (h : LogF w F g cap es f mis q) (hq' : q ≤ q') : LogF w F g cap es f mis q' := by
  obtain ⟨A1, c1, A2, c2, d, m4, m5, hb, h1, h2, hd, h4, h5, hne, hr, hq, hcap, r⟩ := h
  exact ⟨A1, c1, A2, c2, d, m4, m5, hb, h1, h2, hd, h4.more hq', h5.more hq', hne, hr, by omega, hcap, r⟩
abbrev LogAt (w : World) (F : Nat → Prop) (g cap : Nat) (es : List Ev) (mis : Int → Nat) (q : Nat) : Prop := LogF w F g cap es (recN es) mis q
/-- What a step hands on. -/
def Step (w : World) (F : Nat → Prop) (g cap : Nat) (es : List Ev) (f mis : Int → Nat) (q : Nat) (w' : World) : Prop :=
  ∃ F', LogF w' F' g cap es f mis q ∧ Turn F w w' ∧ ∀ k, F' k → F k ∨ w.heap.size ≤ k
theorem LogF.grow4 {w w' : World} {F : Nat → Prop} {g cap q : Nat} {es : List Ev} {f mis : Int → Nat} {k : Int} {A1 A2 : Option Addr} {c1 c2 d : Nat} {m4 m5 : Option Nat}
    (h1 : w.ownsRow 0 36 5 (.slice A1 es.length c1) es.length (evs es)) (h2 : w.ownsRow 0 5 1 (.slice A2 (logB fStart es).length c2) (logB fStart es).length (bys (logB fStart es)))
    (hd : es ≠ [] → d = endD fStart es) (h5 : MapAt w m5 mis q) (hne : ∀ b, m4 = some b → m5 ≠ some b) (hr : ∀ e ∈ es, Right e) (hq : es.length ≤ q) (hcap : cap ≤ 65536)
    (f0 : F g) (f1 : ∀ b, (Value.slice A1 es.length c1).ownBlock = some b → F b) (f2 : ∀ b, (Value.slice A2 (logB fStart es).length c2).ownBlock = some b → F b) (f4 : ∀ b, m4 = some b → F b) (f5 : ∀ b, m5 = some b → F b) (fs : ∀ b, F b → b < w.heap.size)
    (n1 : ∀ b, (Value.slice A1 es.length c1).ownBlock = some b → b ≠ g ∧ m4 ≠ some b) (n2 : ∀ b, (Value.slice A2 (logB fStart es).length c2).ownBlock = some b → b ≠ g ∧ m4 ≠ some b) (n5 : m5 ≠ some g)
    (b : Nat) (hb : m4 = some b ∨ w.heap.size ≤ b) (hblk : Blk w' g #[.int .i64 cap, .slice A1 es.length c1, .slice A2 (logB fStart es).length c2, .int .u64 d, .map (some b), .map m5] 72)
    (hM : MapAt w' (some b) (bump f k) (q + 1)) (hT : Turn (fun j => j = g ∨ m4 = some j) w w') : Step w F g cap es (bump f k) mis (q + 1) w' := by
  have keep : ∀ j, F j → j ≠ g → m4 ≠ some j → w'.heap[j]? = w.heap[j]? := fun j hj h3 h4 => hT.block j (fs j hj) (by simp [h3, h4])
  have hbl : b < w'.heap.size := by
    obtain ⟨n, D, _, ho, _⟩ := hM.2
    exact ho.lt
  refine ⟨fun j => F j ∨ j = b, ⟨A1, c1, A2, c2, d, some b, m5, hblk, own_kept h1 fun j e => keep j (f1 j e) (n1 j e).1 (n1 j e).2, own_kept h2 fun j e => keep j (f2 j e) (n2 j e).1 (n2 j e).2, hd, hM,
    (h5.kept fun j e => keep j (f5 j e) (fun h => n5 (by rw [e, h])) (fun h => hne j h e)).more (by omega), ?_, hr, by omega, hcap, .inl f0, fun j e => .inl (f1 j e), fun j e => .inl (f2 j e), fun j e => .inr (by injection e with e; exact e.symm), fun j e => .inl (f5 j e), ?_⟩, ?_, ?_⟩
  · intro j e h
    injection e with e
    subst e
    rcases hb with hb | hb
    · exact hne b hb h
    · have := fs b (f5 b h); omega
  · rintro j (h | rfl)
    · exact Nat.lt_of_lt_of_le (fs j h) hT.size
    · exact hbl
  · refine ⟨hT.os, hT.tape, hT.output, hT.size, fun j hj hn => hT.block j hj ?_⟩
    rintro (rfl | h)
    · exact hn f0
    · exact hn (f4 j h)
  · rintro j (h | rfl)
    · exact .inl h
    · rcases hb with hb | hb
      · exact .inl (f4 _ hb)
      · exact .inr hb
/-- Blocks of different kinds lie apart. -/
theorem own_at_block {w : World} {base n size : Nat} {e : TypeId} {v : Value} {xs : List Value} (h : w.ownsRow base e size v n xs) : ∀ b, v.ownBlock = some b → ∃ cur, w.heap[b]? = some (.cells cur e (0, 0)) := by
  intro b hb
  rcases h.2 with ⟨h, _⟩ | ⟨g, cap, cur, hv, _, hh, _⟩
  · subst h; cases hb
  · subst hv
    injection hb with hb
    subst hb
    exact ⟨cur, hh⟩
theorem map_at_block {w : World} {m : Option Nat} {f : Int → Nat} {q : Nat} (h : MapAt w m f q) : ∀ b, m = some b → ∃ es ck, w.heap[b]? = some (.map es ck) := by
  intro b hb
  subst hb
  obtain ⟨n, D, _, ⟨es, ck, hh, _⟩, _⟩ := h.2
  exact ⟨es, ck, hh⟩
theorem apart1 {w : World} {base n size g : Nat} {e t : TypeId} {v : Value} {xs : List Value} {cs : Array Value} {m : Option Nat} {f : Int → Nat} {q : Nat} (h : w.ownsRow base e size v n xs) (hb : Blk w g cs t) (hM : MapAt w m f q) (hne : e ≠ t) :
    ∀ b, v.ownBlock = some b → b ≠ g ∧ m ≠ some b := by
  intro b e1
  obtain ⟨cur, h1⟩ := own_at_block h b e1
  refine ⟨fun e2 => ?_, fun e2 => ?_⟩
  · subst e2
    rw [hb] at h1
    injection h1 with h1
    injection h1 with _ h1
    exact hne h1.symm
  · obtain ⟨es, ck, h2⟩ := map_at_block hM b e2
    rw [h2] at h1
    cases h1
theorem apart2 {w : World} {g : Nat} {t : TypeId} {cs : Array Value} {m : Option Nat} {f : Int → Nat} {q : Nat} (hb : Blk w g cs t) (hM : MapAt w m f q) : m ≠ some g := by
  intro e
  obtain ⟨es, ck, h2⟩ := map_at_block hM g e
  rw [hb] at h2
  cases h2
end Go.Proofs.Ytmhmaodnkifcaaa
