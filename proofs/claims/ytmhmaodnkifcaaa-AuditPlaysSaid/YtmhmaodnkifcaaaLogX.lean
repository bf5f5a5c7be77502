/-
  The log's parts, each by name; what a store into one of them leaves of the others.
-/
import Derived.Test.YtmhmaodnkifcaaaLogN
namespace Go.Proofs.Ytmhmaodnkifcaaa
open Go.RowKit
set_option linter.unusedSimpArgs false
set_option linter.unusedVariables false

structure LogX (w : World) (F : Nat → Prop) (g cap : Nat) (es : List Ev) (bs : List UInt8) (d : Nat) (f mis : Int → Nat) (q : Nat) (A1 : Option Addr) (c1 : Nat) (A2 : Option Addr) (c2 : Nat) (m4 m5 : Option Nat) : Prop where
  blk : Blk w g #[.int .i64 cap, .slice A1 es.length c1, .slice A2 bs.length c2, .int .u64 d, .map m4, .map m5] 72
  r1 : w.ownsRow 0 36 5 (.slice A1 es.length c1) es.length (evs es)
  r2 : w.ownsRow 0 5 1 (.slice A2 bs.length c2) bs.length (bys bs)
  h4 : MapAt w m4 f q
  h5 : MapAt w m5 mis q
  ne : ∀ b, m4 = some b → m5 ≠ some b
  f0 : F g
  f1 : ∀ b, (Value.slice A1 es.length c1).ownBlock = some b → F b
  f2 : ∀ b, (Value.slice A2 bs.length c2).ownBlock = some b → F b
  f4 : ∀ b, m4 = some b → F b
  f5 : ∀ b, m5 = some b → F b
  fs : ∀ b, F b → b < w.heap.size
variable {w w' : World} {F : Nat → Prop} {g cap : Nat} {es : List Ev} {bs : List UInt8} {d : Nat} {f mis : Int → Nat} {q : Nat} {A1 : Option Addr} {c1 : Nat} {A2 : Option Addr} {c2 : Nat} {m4 m5 : Option Nat}
theorem LogF.open (h : LogF w F g cap es f mis q) : ∃ (A1 : Option Addr) (c1 : Nat) (A2 : Option Addr) (c2 d : Nat) (m4 m5 : Option Nat), LogX w F g cap es (logB fStart es) d f mis q A1 c1 A2 c2 m4 m5 ∧ (es ≠ [] → d = endD fStart es) ∧ (∀ e ∈ es, Right e) ∧ es.length ≤ q ∧ cap ≤ 65536 := by
  obtain ⟨A1, c1, A2, c2, d, m4, m5, hb, h1, h2, hd, h4, h5, hne, hr, hq, hcap, f0, f1, f2, f4, f5, fs⟩ := h
  exact ⟨A1, c1, A2, c2, d, m4, m5, ⟨hb, h1, h2, h4, h5, hne, f0, f1, f2, f4, f5, fs⟩, hd, hr, hq, hcap⟩
theorem LogX.shut (h : LogX w F g cap es (logB fStart es) d f mis q A1 c1 A2 c2 m4 m5) (hd : es ≠ [] → d = endD fStart es) (hr : ∀ e ∈ es, Right e) (hq : es.length ≤ q) (hcap : cap ≤ 65536) : LogF w F g cap es f mis q :=
  ⟨A1, c1, A2, c2, d, m4, m5, h.blk, h.r1, h.r2, hd, h.h4, h.h5, h.ne, hr, hq, hcap, h.f0, h.f1, h.f2, h.f4, h.f5, h.fs⟩
theorem LogX.kept (h : LogX w F g cap es bs d f mis q A1 c1 A2 c2 m4 m5) (hk : ∀ b, F b → w'.heap[b]? = w.heap[b]?) (hs : w.heap.size ≤ w'.heap.size) : LogX w' F g cap es bs d f mis q A1 c1 A2 c2 m4 m5 :=
  ⟨(hk g h.f0).trans h.blk, own_kept h.r1 fun b e => hk b (h.f1 b e), own_kept h.r2 fun b e => hk b (h.f2 b e), h.h4.kept fun b e => hk b (h.f4 b e), h.h5.kept fun b e => hk b (h.f5 b e), h.ne, h.f0, h.f1, h.f2, h.f4, h.f5, fun b e => Nat.lt_of_lt_of_le (h.fs b e) hs⟩
theorem LogX.below (h : LogX w F g cap es bs d f mis q A1 c1 A2 c2 m4 m5) (hb : Below w.heap.size w w') : LogX w' F g cap es bs d f mis q A1 c1 A2 c2 m4 m5 :=
  h.kept (fun b e => hb.block b (h.fs b e)) hb.size
theorem turn_set (w : World) (g k : Nat) (v : Value) (hF : F g) : Turn F w (w.setCell ⟨g, k, none⟩ v) := (Turn.refl F w).grown (grown_set w g k v) fun j e _ => by injection e with e; subst e; exact hF
theorem LogX.last (h : LogX w F g cap es bs d f mis q A1 c1 A2 c2 m4 m5) (D : Nat) : LogX (w.setCell ⟨g, 3, none⟩ (.int .u64 D)) F g cap es bs D f mis q A1 c1 A2 c2 m4 m5 := by
  have hk : ∀ b, b ≠ g → (w.setCell ⟨g, 3, none⟩ (.int .u64 D)).heap[b]? = w.heap[b]? := fun b hb => Below.heap_setCell _ _ _ b hb
  have a1 := apart1 h.r1 h.blk h.h4 (by decide)
  have a2 := apart1 h.r2 h.blk h.h4 (by decide)
  refine ⟨h.blk.set 3 _, own_kept h.r1 fun b e => hk b (a1 b e).1, own_kept h.r2 fun b e => hk b (a2 b e).1, h.h4.kept fun b e => hk b fun e2 => ?_, h.h5.kept fun b e => hk b fun e2 => ?_, h.ne, h.f0, h.f1, h.f2, h.f4, h.f5, fun b e => by rw [heap_set]; exact h.fs b e⟩
  · subst e2; exact apart2 h.blk h.h4 e
  · subst e2; exact apart2 h.blk h.h5 e
theorem own_apart_t {base n size base' n' size' : Nat} {e e' : TypeId} {v v' : Value} {xs xs' : List Value} (h : w.ownsRow base e size v n xs) (h' : w.ownsRow base' e' size' v' n' xs') (hne : e ≠ e') : ∀ b, v.ownBlock = some b → v'.ownBlock ≠ some b := by
  intro b e1 e2
  obtain ⟨_, h1⟩ := own_at_block h b e1
  obtain ⟨_, h2⟩ := own_at_block h' b e2
  rw [h1] at h2
  injection h2 with h2
  injection h2 with _ h2
  exact hne h2
/-- Events behind an append, stored. -/
theorem LogX.ev (h : LogX w F g cap es bs d f mis q A1 c1 A2 c2 m4 m5) {es' : List Ev} {A' : Option Addr} {c' n' : Nat} (hn : es'.length = n') (ho : w'.ownsRow 0 36 5 (.slice A' n' c') n' (evs es')) (hg : w.grownBy w' (Value.slice A1 es.length c1).ownBlock)
    :
    LogX (w'.setCell ⟨g, 1, none⟩ (.slice A' n' c')) (fun k => F k ∨ (Value.slice A' n' c').ownBlock = some k) g cap es' bs d f mis q A' c' A2 c2 m4 m5 ∧ Turn F w (w'.setCell ⟨g, 1, none⟩ (.slice A' n' c')) := by
  subst hn
  have a1 := apart1 h.r1 h.blk h.h4 (by decide)
  have a15 := apart1 h.r1 h.blk h.h5 (by decide)
  have a12 := own_apart_t h.r1 h.r2 (by decide)
  have hk : ∀ b, b < w.heap.size → (Value.slice A1 es.length c1).ownBlock ≠ some b → w'.heap[b]? = w.heap[b]? := fun b hb hne => hg.block b hb (fun e => hne e.symm)
  have blk' : Blk w' g _ _ := (hk g (h.fs g h.f0) fun e => (a1 g e).1 rfl).trans h.blk
  have r2' : w'.ownsRow 0 5 1 (.slice A2 bs.length c2) bs.length (bys bs) := own_kept h.r2 fun b e => hk b (h.fs b (h.f2 b e)) fun e1 => a12 b e1 e
  have h4' : MapAt w' m4 f q := h.h4.kept fun b e => hk b (h.fs b (h.f4 b e)) fun e1 => (a1 b e1).2 e
  have h5' : MapAt w' m5 mis q := h.h5.kept fun b e => hk b (h.fs b (h.f5 b e)) fun e1 => (a15 b e1).2 e
  have s : ∀ b, b ≠ g → (w'.setCell ⟨g, 1, none⟩ (.slice A' es'.length c')).heap[b]? = w'.heap[b]? := fun b hb => Below.heap_setCell _ _ _ b hb
  have b1 := apart1 ho blk' h4' (by decide)
  have b2 := apart1 r2' blk' h4' (by decide)
  refine ⟨⟨blk'.set 1 _, own_kept ho fun b e => s b (b1 b e).1, own_kept r2' fun b e => s b (b2 b e).1, h4'.kept fun b e => s b fun e2 => ?_, h5'.kept fun b e => s b fun e2 => ?_, h.ne, .inl h.f0, fun b e => .inr e, fun b e => .inl (h.f2 b e), fun b e => .inl (h.f4 b e), fun b e => .inl (h.f5 b e), ?_⟩, ?_⟩
  · subst e2; exact apart2 blk' h4' e
  · subst e2; exact apart2 blk' h5' e
  · rintro b (e | e)
    · rw [heap_set]; exact Nat.lt_of_lt_of_le (h.fs b e) hg.size
    · rw [heap_set]
      obtain ⟨_, h1⟩ := own_at_block ho b e
      exact (Array.getElem?_eq_some_iff.1 h1).1
  · have t1 : Turn F w w' := (Turn.refl F w).grown hg fun j e _ => h.f1 j e
    exact t1.grown (grown_set w' g 1 _) fun j e _ => by injection e with e; subst e; exact h.f0
/-- Bytes behind an append, stored. -/
theorem LogX.by (h : LogX w F g cap es bs d f mis q A1 c1 A2 c2 m4 m5) {bs' : List UInt8} {A' : Option Addr} {c' n' : Nat} (hn : bs'.length = n') (ho : w'.ownsRow 0 5 1 (.slice A' n' c') n' (bys bs')) (hg : w.grownBy w' (Value.slice A2 bs.length c2).ownBlock) :
    LogX (w'.setCell ⟨g, 2, none⟩ (.slice A' n' c')) (fun k => F k ∨ (Value.slice A' n' c').ownBlock = some k) g cap es bs' d f mis q A1 c1 A' c' m4 m5 ∧ Turn F w (w'.setCell ⟨g, 2, none⟩ (.slice A' n' c')) := by
  subst hn
  have a2 := apart1 h.r2 h.blk h.h4 (by decide)
  have a25 := apart1 h.r2 h.blk h.h5 (by decide)
  have a21 := own_apart_t h.r2 h.r1 (by decide)
  have hk : ∀ b, b < w.heap.size → (Value.slice A2 bs.length c2).ownBlock ≠ some b → w'.heap[b]? = w.heap[b]? := fun b hb hne => hg.block b hb (fun e => hne e.symm)
  have blk' : Blk w' g _ _ := (hk g (h.fs g h.f0) fun e => (a2 g e).1 rfl).trans h.blk
  have r1' : w'.ownsRow 0 36 5 (.slice A1 es.length c1) es.length (evs es) := own_kept h.r1 fun b e => hk b (h.fs b (h.f1 b e)) fun e1 => a21 b e1 e
  have h4' : MapAt w' m4 f q := h.h4.kept fun b e => hk b (h.fs b (h.f4 b e)) fun e1 => (a2 b e1).2 e
  have h5' : MapAt w' m5 mis q := h.h5.kept fun b e => hk b (h.fs b (h.f5 b e)) fun e1 => (a25 b e1).2 e
  have s : ∀ b, b ≠ g → (w'.setCell ⟨g, 2, none⟩ (.slice A' bs'.length c')).heap[b]? = w'.heap[b]? := fun b hb => Below.heap_setCell _ _ _ b hb
  have b1 := apart1 ho blk' h4' (by decide)
  have b2 := apart1 r1' blk' h4' (by decide)
  refine ⟨⟨blk'.set 2 _, own_kept r1' fun b e => s b (b2 b e).1, own_kept ho fun b e => s b (b1 b e).1, h4'.kept fun b e => s b fun e2 => ?_, h5'.kept fun b e => s b fun e2 => ?_, h.ne, .inl h.f0, fun b e => .inl (h.f1 b e), fun b e => .inr e, fun b e => .inl (h.f4 b e), fun b e => .inl (h.f5 b e), ?_⟩, ?_⟩
  · subst e2; exact apart2 blk' h4' e
  · subst e2; exact apart2 blk' h5' e
  · rintro b (e | e)
    · rw [heap_set]; exact Nat.lt_of_lt_of_le (h.fs b e) hg.size
    · rw [heap_set]
      obtain ⟨_, h1⟩ := own_at_block ho b e
      exact (Array.getElem?_eq_some_iff.1 h1).1
  · have t1 : Turn F w w' := (Turn.refl F w).grown hg fun j e _ => h.f2 j e
    exact t1.grown (grown_set w' g 2 _) fun j e _ => by injection e with e; subst e; exact h.f0
/-- What grow leaves. -/
theorem LogX.grow4 (h : LogX w F g cap es (logB fStart es) d f mis q A1 c1 A2 c2 m4 m5) (hd : es ≠ [] → d = endD fStart es) (hr : ∀ e ∈ es, Right e) (hq : es.length ≤ q) (hcap : cap ≤ 65536) {k : Int} {b : Nat} (hb : m4 = some b ∨ w.heap.size ≤ b)
    (hblk : Blk w' g #[.int .i64 cap, .slice A1 es.length c1, .slice A2 (logB fStart es).length c2, .int .u64 d, .map (some b), .map m5] 72)
    (hM : MapAt w' (some b) (bump f k) (q + 1)) (hT : Turn (fun j => j = g ∨ m4 = some j) w w') : Step w F g cap es (bump f k) mis (q + 1) w' :=
  LogF.grow4 h.r1 h.r2 hd h.h5 h.ne hr hq hcap h.f0 h.f1 h.f2 h.f4 h.f5 h.fs (apart1 h.r1 h.blk h.h4 (by decide)) (apart1 h.r2 h.blk h.h4 (by decide)) (apart2 h.blk h.h5) b hb hblk hM hT

/-! ### Append, with what it says of the block -/
theorem wp_appE3 {w : World} {ops : Array Oper} {rest : List Oper} {o : Oper} {a : Act} {Q : Exit → Act → World → Prop} (hgd : o.guard = none) (s x : Operand)
    (ho : o.op = .call { callee := .builtin .append, args := #[s, x], argTypes := #[24, 24] })
    (base : Nat) (A1 : Option Addr) (n c1 : Nat) (es : List Ev) (hs : a.eval s = .slice A1 n c1) (hown : w.ownsRow base 36 5 (.slice A1 n c1) n (evs es))
    (A2 : Option Addr) (B c2 : Nat) (e : Ev) (hx : a.eval x = .slice A2 1 c2) (hsl : Sl w B A2 (evc e)) (N : Nat) (hN : n + 1 = N) (hb : N ≤ 1000000) (hbase : base ≤ w.heap.size)
    (h : ∀ A' c' w', w'.ownsRow base 36 5 (.slice A' N c') N (evs (es ++ [e])) → w.grownBy w' (Value.slice A1 n c1).ownBlock → ((Value.slice A' N c').ownBlock = (Value.slice A1 n c1).ownBlock ∨ (Value.slice A' N c').ownBlock = some w.heap.size) →
      wpList Try.prog ops Q rest (a.put o.dst (.slice A' N c')) w') : wpList Try.prog ops Q (o :: rest) a w := by
  subst hN
  obtain ⟨i0, hi, hz0, hz1, hz2⟩ := info_parts info_ev
  refine wpList_app hgd s x 24 ho base 36 i0 _ 5 40 Try.underlying24 hi hz0 hz1 hz2 rfl (by decide) _ n _ hs hown A2 B 1 c2 (evc e) hx rfl hsl (evc_one e) (by unfold maxLen; omega) (by omega) hbase ?_
  intro A' c' w' h1 h2 h3
  rw [← evs_snoc] at h1
  exact h A' c' w' h1 h2 h3
theorem wp_app83 {w : World} {ops : Array Oper} {rest : List Oper} {o : Oper} {a : Act} {Q : Exit → Act → World → Prop} (hgd : o.guard = none) (s x : Operand)
    (ho : o.op = .call { callee := .builtin .append, args := #[s, x], argTypes := #[38, 38] })
    (base : Nat) (A1 : Option Addr) (n c1 : Nat) (l1 : List UInt8) (hs : a.eval s = .slice A1 n c1) (hown : w.ownsRow base 5 1 (.slice A1 n c1) n (bys l1))
    (A2 : Option Addr) (B m c2 : Nat) (l2 : List UInt8) (hx : a.eval x = .slice A2 m c2) (hl : l2.length = m) (hsl : Sl w B A2 (bys l2)) (N : Nat) (hN : n + m = N) (hb : N ≤ 70368744177664) (hbase : base ≤ w.heap.size)
    (h : ∀ A' c' w', w'.ownsRow base 5 1 (.slice A' N c') N (bys (l1 ++ l2)) → w.grownBy w' (Value.slice A1 n c1).ownBlock → ((Value.slice A' N c').ownBlock = (Value.slice A1 n c1).ownBlock ∨ (Value.slice A' N c').ownBlock = some w.heap.size) →
      wpList Try.prog ops Q rest (a.put o.dst (.slice A' N c')) w') : wpList Try.prog ops Q (o :: rest) a w := by
  subst hN
  obtain ⟨i0, hi, hz0, hz1, hz2⟩ := info_parts info_u8
  refine wpList_app hgd s x 38 ho base 5 i0 (.int .u8 0) 1 1 Try.underlying38 hi hz0 hz1 hz2 rfl (by decide) _ n _ hs hown A2 B m c2 (bys l2) hx (by simp [hl]) hsl (bys_one _) (by unfold maxLen; omega) (by omega) hbase ?_
  intro A' c' w' h1 h2 h3
  rw [← bys_append] at h1
  exact h A' c' w' h1 h2 h3
end Go.Proofs.Ytmhmaodnkifcaaa
