/-
  How a log moves on, step by step; append at one operation.
-/
import Derived.Test.YtmhmaodnkifcaaaLogX
import Derived.Test.YtmhmaodnkifcaaaRegJ
import Derived.Test.YtmhmaodnkifcaaaAuDec
namespace Go.Proofs.Ytmhmaodnkifcaaa
open Go.RowKit
set_option linter.unusedSimpArgs false
set_option linter.unusedVariables false

/-- From the world w with the log's blocks F to the world w' with the log's blocks F'. -/
structure Run (w : World) (F : Nat → Prop) (w' : World) (F' : Nat → Prop) : Prop where
  turn : Turn F w w'
  sub : ∀ k, F' k → F k ∨ w.heap.size ≤ k
theorem Run.refl (w : World) (F : Nat → Prop) : Run w F w F := ⟨Turn.refl F w, fun _ h => .inl h⟩
theorem Run.trans {a b c : World} {F G H : Nat → Prop} (h : Run a F b G) (k : Run b G c H) : Run a F c H := by
  refine ⟨h.turn.trans k.turn fun j hj hG => ?_, fun j hj => ?_⟩
  · rcases h.sub j hG with h1 | h1
    · exact h1
    · omega
  · rcases k.sub j hj with h1 | h1
    · exact h.sub j h1
    · have := h.turn.size; exact .inr (by omega)
theorem Run.of_below {w w' : World} {F : Nat → Prop} (h : Below w.heap.size w w') : Run w F w' F := ⟨Turn.of h, fun _ h => .inl h⟩
theorem Run.below {a b c : World} {F G : Nat → Prop} (h : Run a F b G) (hb : Below b.heap.size b c) : Run a F c G := h.trans (Run.of_below hb)
theorem Run.ev {g0 : Nat} {p o h a x : Int} {F G : Nat → Prop} {w w' : World} (hr : Run w F w' G) (he : EvAt g0 p o h a x w) (hF : ¬ F g0) : EvAt g0 p o h a x w' := by
  obtain ⟨⟨h0, h1, h2, h3, h4⟩, hg⟩ := he
  have e := hr.turn.block g0 hg hF
  exact ⟨⟨(World.cell?_of_block e).trans h0, (World.cell?_of_block e).trans h1, (World.cell?_of_block e).trans h2, (World.cell?_of_block e).trans h3, (World.cell?_of_block e).trans h4⟩, Nat.lt_of_lt_of_le hg hr.turn.size⟩
theorem Run.own {w w' : World} {F G : Nat → Prop} {base n size : Nat} {e : TypeId} {v : Value} {xs : List Value} (hr : Run w F w' G) (h : w.ownsRow base e size v n xs) (hF : ∀ k, F k → v.ownBlock ≠ some k) : w'.ownsRow base e size v n xs :=
  own_kept h fun b hb => hr.turn.block b (h.lt b hb).2 fun hf => hF b hf hb
theorem cell_go {w w' : World} {p : Addr} {v : Value} (h : w.cell? p = some v) (hb : Below w.heap.size w w') : w'.cell? p = some v := (hb.cell (World.block_lt_of_cell? w p h)).trans h

variable {w w' : World} {F : Nat → Prop} {g cap : Nat} {es : List Ev} {bs : List UInt8} {d : Nat} {f mis : Int → Nat} {q : Nat} {A1 : Option Addr} {c1 : Nat} {A2 : Option Addr} {c2 : Nat} {m4 m5 : Option Nat}
theorem LogX.blk1 (h : LogX w F g cap es bs d f mis q A1 c1 A2 c2 m4 m5) (hg : w.grownBy w' (Value.slice A1 es.length c1).ownBlock) : Blk w' g #[.int .i64 cap, .slice A1 es.length c1, .slice A2 bs.length c2, .int .u64 d, .map m4, .map m5] 72 :=
  (hg.block g (h.fs g h.f0) (fun e => (apart1 h.r1 h.blk h.h4 (by decide) g e.symm).1 rfl)).trans h.blk
theorem LogX.blk2 (h : LogX w F g cap es bs d f mis q A1 c1 A2 c2 m4 m5) (hg : w.grownBy w' (Value.slice A2 bs.length c2).ownBlock) : Blk w' g #[.int .i64 cap, .slice A1 es.length c1, .slice A2 bs.length c2, .int .u64 d, .map m4, .map m5] 72 :=
  (hg.block g (h.fs g h.f0) (fun e => (apart1 h.r2 h.blk h.h4 (by decide) g e.symm).1 rfl)).trans h.blk
theorem LogX.ev2 (h : LogX w F g cap es bs d f mis q A1 c1 A2 c2 m4 m5) {es' : List Ev} {A' : Option Addr} {c' n' : Nat} (hn : es'.length = n') (ho : w'.ownsRow 0 36 5 (.slice A' n' c') n' (evs es')) (hg : w.grownBy w' (Value.slice A1 es.length c1).ownBlock)
    (hb : (Value.slice A' n' c').ownBlock = (Value.slice A1 es.length c1).ownBlock ∨ (Value.slice A' n' c').ownBlock = some w.heap.size) :
    ∃ F', LogX (w'.setCell ⟨g, 1, none⟩ (.slice A' n' c')) F' g cap es' bs d f mis q A' c' A2 c2 m4 m5 ∧ Run w F (w'.setCell ⟨g, 1, none⟩ (.slice A' n' c')) F' := by
  obtain ⟨h1, h2⟩ := h.ev hn ho hg
  refine ⟨_, h1, h2, ?_⟩
  rintro k (hk | hk)
  · exact .inl hk
  · rcases hb with hb | hb
    · exact .inl (h.f1 k (hb.symm.trans hk))
    · rw [hb] at hk
      injection hk with hk
      exact .inr (by omega)
theorem LogX.by2 (h : LogX w F g cap es bs d f mis q A1 c1 A2 c2 m4 m5) {bs' : List UInt8} {A' : Option Addr} {c' n' : Nat} (hn : bs'.length = n') (ho : w'.ownsRow 0 5 1 (.slice A' n' c') n' (bys bs')) (hg : w.grownBy w' (Value.slice A2 bs.length c2).ownBlock)
    (hb : (Value.slice A' n' c').ownBlock = (Value.slice A2 bs.length c2).ownBlock ∨ (Value.slice A' n' c').ownBlock = some w.heap.size) :
    ∃ F', LogX (w'.setCell ⟨g, 2, none⟩ (.slice A' n' c')) F' g cap es bs' d f mis q A1 c1 A' c' m4 m5 ∧ Run w F (w'.setCell ⟨g, 2, none⟩ (.slice A' n' c')) F' := by
  obtain ⟨h1, h2⟩ := h.by hn ho hg
  refine ⟨_, h1, h2, ?_⟩
  rintro k (hk | hk)
  · exact .inl hk
  · rcases hb with hb | hb
    · exact .inl (h.f2 k (hb.symm.trans hk))
    · rw [hb] at hk
      injection hk with hk
      exact .inr (by omega)
theorem LogX.run3 (h : LogX w F g cap es bs d f mis q A1 c1 A2 c2 m4 m5) (D : Nat) : Run w F (w.setCell ⟨g, 3, none⟩ (.int .u64 D)) F := ⟨turn_set w g 3 _ h.f0, fun _ h => .inl h⟩

/-! ### Append at one operation of a region -/
theorem wpo_appE {w : World} {o : Oper} {a : Act} {K : Act → World → Prop} {Q : Exit → Act → World → Prop} (s x : Operand)
    (ho : o.op = .call { callee := .builtin .append, args := #[s, x], argTypes := #[24, 24] })
    (base : Nat) (A1 : Option Addr) (n c1 : Nat) (es : List Ev) (hs : a.eval s = .slice A1 n c1) (hown : w.ownsRow base 36 5 (.slice A1 n c1) n (evs es))
    (A2 : Option Addr) (B c2 : Nat) (e : Ev) (hx : a.eval x = .slice A2 1 c2) (hsl : Sl w B A2 (evc e)) (N : Nat) (hN : n + 1 = N) (hb : N ≤ 1000000) (hbase : base ≤ w.heap.size)
    (h : ∀ A' c' w', w'.ownsRow base 36 5 (.slice A' N c') N (evs (es ++ [e])) → w.grownBy w' (Value.slice A1 n c1).ownBlock → ((Value.slice A' N c').ownBlock = (Value.slice A1 n c1).ownBlock ∨ (Value.slice A' N c').ownBlock = some w.heap.size) →
      K (a.put o.dst (.slice A' N c')) w') : o.wp Try.prog a w K Q := by
  subst hN
  obtain ⟨i0, hi, hz0, hz1, hz2⟩ := info_parts info_ev
  refine wp_app s x 24 ho base 36 i0 _ 5 40 Try.underlying24 hi hz0 hz1 hz2 rfl (by decide) _ n _ hs hown A2 B 1 c2 (evc e) hx rfl hsl (evc_one e) (by unfold maxLen; omega) (by omega) hbase ?_
  intro A' c' w' h1 h2 h3
  rw [← evs_snoc] at h1
  exact h A' c' w' h1 h2 h3
theorem wpo_app8 {w : World} {o : Oper} {a : Act} {K : Act → World → Prop} {Q : Exit → Act → World → Prop} (s x : Operand)
    (ho : o.op = .call { callee := .builtin .append, args := #[s, x], argTypes := #[38, 38] })
    (base : Nat) (A1 : Option Addr) (n c1 : Nat) (l1 : List UInt8) (hs : a.eval s = .slice A1 n c1) (hown : w.ownsRow base 5 1 (.slice A1 n c1) n (bys l1))
    (A2 : Option Addr) (B m c2 : Nat) (l2 : List UInt8) (hx : a.eval x = .slice A2 m c2) (hl : l2.length = m) (hsl : Sl w B A2 (bys l2)) (N : Nat) (hN : n + m = N) (hb : N ≤ 70368744177664) (hbase : base ≤ w.heap.size)
    (h : ∀ A' c' w', w'.ownsRow base 5 1 (.slice A' N c') N (bys (l1 ++ l2)) → w.grownBy w' (Value.slice A1 n c1).ownBlock → ((Value.slice A' N c').ownBlock = (Value.slice A1 n c1).ownBlock ∨ (Value.slice A' N c').ownBlock = some w.heap.size) →
      K (a.put o.dst (.slice A' N c')) w') : o.wp Try.prog a w K Q := by
  subst hN
  obtain ⟨i0, hi, hz0, hz1, hz2⟩ := info_parts info_u8
  refine wp_app s x 38 ho base 5 i0 (.int .u8 0) 1 1 Try.underlying38 hi hz0 hz1 hz2 rfl (by decide) _ n _ hs hown A2 B m c2 (bys l2) hx (by simp [hl]) hsl (bys_one _) (by unfold maxLen; omega) (by omega) hbase ?_
  intro A' c' w' h1 h2 h3
  rw [← bys_append] at h1
  exact h A' c' w' h1 h2 h3
theorem grown_cell {w w' : World} {row : Option Nat} {p : Addr} {v : Value} (h : w.cell? p = some v) (hg : w.grownBy w' row) (hne : row ≠ some p.block) : w'.cell? p = some v :=
  (World.cell?_of_block (a := p) (hg.block p.block (World.block_lt_of_cell? w p h) (fun e => hne e.symm))).trans h
end Go.Proofs.Ytmhmaodnkifcaaa
