/-
  Words for alike: the loop over an iterator with a boxed variable; what has come of a query.
-/
import Derived.Test.YtmhmaodnkifcaaaListed
import Derived.Test.YtmhmaodnkifcaaaRound
namespace Go.Proofs.Ytmhmaodnkifcaaa
open Go.RowKit Go.Shelf
set_option linter.unusedSimpArgs false
set_option linter.unusedVariables false

/-- The loop over an iterator where the assignment boxes a variable: the temporaries behind it as a function of the box. -/
theorem wpIn_rangeFunc_ownHb {α : Type} {F : Fence} {n : Nat} {P : Program} {g : Operand} {ps : Array Tmp} {assign body : Code} {Q : Exit → Act → World → Prop} {a : Act} {w : World}
    (hro : F.round = none) (h1 : 1 ≤ n) {gf : Nat} {lb : Array Value} (hg : a.eval g = .func (.func gf) #[] lb) (hFg : F.fn gf) (eg : ∀ args w, (callFunc gf args).run P w = .ok (.enter gf args) w)
    {encs : α → Array Value} {Kp : World → World → Prop} {S Sp : List α → Prop} {N : Nat} {w0 : World} (hseq : SeqStopsK F (n - 1) P gf lb encs Kp S Sp N w0)
    (hKt : ∀ {A B C : World}, Kp A B → Kp B C → Kp A C) (hKb : ∀ (W : World) (l : Nat) (o o' : Obj), w.heap.size ≤ l → W.heap[l]? = some o → o.isCells = false → o.isWalk = false → Kp W (W.putObj l o')) (hb0 : Below w0.heap.size w0 w) (hps : ∀ x, (encs x).size = ps.size)
    (I : List α → World → Prop) (Ix : Code → List α → World → Prop) (hI : OwnFrom w.heap.size I) (hIx : ∀ c, OwnFrom w.heap.size (Ix c)) (h0 : I [] w) (Bq : Nat → α → World → Prop) (hBq : ∀ b x, OwnFrom w.heap.size (fun (_ : Unit) W => Bq b x W)) (a₁ : α → Nat → Act)
    (hassign : ∀ (l : Nat) (pre : List α) (x : α) (W : World) (K : Act → World → Prop), I pre W → (∀ b W', KeepsFrom w.heap.size W W' → Kp W W' → I pre W' → Bq b x W' → K (a₁ x b) W') →
      assign.wpIn (F.inRound l) (n - 1 - 1) P (Exit.then K (fun _ _ _ => False)) { tmps := (ps.zip (encs x)).foldl (fun t (p, v) => t.setIfInBounds p v) a.tmps, defers := [] } W)
    (hbody : ∀ (l : Nat) (pre : List α) (x : α) (b : Nat) (W : World), w.heap.size ≤ l → (∃ r, W.heap[l]? = some (.loop r)) → I pre W → Bq b x W → pre.length < N → body.wpIn (F.inRound l) (n - 1 - 1) P (ownPostG w.heap.size Kp I Ix (pre ++ [x]) W) (a₁ x b) W)
    (hdone : ∀ (D : Nat) (xs : List α) (W : World), w.heap.size ≤ D → S xs → I xs W → W.heap[D]? = some (.deferred (some [])) → Q .normal { a with defers := { target := .collected D, args := #[] } :: a.defers } W)
    (hstop : ∀ (D : Nat) (c : Code) (pre : List α) (W : World), w.heap.size ≤ D → Sp pre → Ix c pre W → W.heap[D]? = some (.deferred (some [])) → c.wpIn F n P Q { a with defers := { target := .collected D, args := #[] } :: a.defers } W) :
    (Code.rangeFunc g ps assign body).wpIn F n P Q a w :=
  wpIn_rangeFunc_ownH hro h1 hg hFg eg hseq hKt hKb hb0 hps I Ix hI hIx h0 (fun x a' W => ∃ b, Bq b x W ∧ a' = a₁ x b)
    (fun x a' s A B row hs hg hr => by obtain ⟨b, h1, h2⟩ := hs; exact ⟨b, hBq b x () A B row h1 hg hr, h2⟩)
    (fun l pre x W K hi hK => hassign l pre x W K hi fun b W' h1 h2 h3 h4 => hK _ _ h1 h2 h3 ⟨b, h4, rfl⟩)
    (fun l pre x a' W hl hr hi hA hlt => by obtain ⟨b, h1, rfl⟩ := hA; exact hbody l pre x b W hl hr hi h1 hlt) hdone hstop

/-- x is what comes next, behind the first k. -/
def NextP (P : Ev → Bool) (es : List Ev) (k : Nat) (x : Nat × Ev) : Prop :=
  ∃ m, k ≤ m ∧ (∀ j (hj : j < es.length), k ≤ j → j < m → P es[j] = false) ∧ ∃ hm : m < es.length, P es[m] = true ∧ x = (m, es[m])
theorem il_mono (P : Ev → Bool) (es : List Ev) (k d : Nat) (h : k + d ≤ es.length) : (il P es k).length ≤ (il P es (k + d)).length := by
  induction d with
  | zero => exact Nat.le_refl _
  | succ d ih =>
    have := ih (by omega)
    cases hp : P (es[k + d]'(by omega)) with
    | true => rw [← Nat.add_assoc, il_hit (by omega) hp]; simp; omega
    | false => rw [← Nat.add_assoc, il_miss (by omega) hp]; exact this
theorem il_same (P : Ev → Bool) (es : List Ev) (k d : Nat) (h : k + d ≤ es.length) (he : il P es (k + d) = il P es k) : ∀ j (hj : j < es.length), k ≤ j → j < k + d → P es[j] = false := by
  induction d with
  | zero => intro j hj h1 h2; omega
  | succ d ih =>
    cases hp : P (es[k + d]'(by omega)) with
    | true =>
      rw [← Nat.add_assoc, il_hit (by omega) hp] at he
      have h1 := il_mono P es k d (by omega)
      have h2 := congrArg List.length he
      simp at h2
      omega
    | false =>
      rw [← Nat.add_assoc, il_miss (by omega) hp] at he
      intro j hj h1 h2
      by_cases hjd : j = k + d
      · subst hjd; exact hp
      · exact ih (by omega) he j hj h1 (by omega)
theorem il_next (P : Ev → Bool) (es : List Ev) (k d : Nat) (x : Nat × Ev) (h : k + d ≤ es.length) (he : il P es (k + d) = il P es k ++ [x]) : NextP P es k x := by
  induction d with
  | zero =>
    have := congrArg List.length he
    simp at this
  | succ d ih =>
    cases hp : P (es[k + d]'(by omega)) with
    | true =>
      rw [← Nat.add_assoc, il_hit (by omega) hp] at he
      have h2 := List.append_inj' he rfl
      have h3 : (k + d, es[k + d]'(by omega)) = x := by simpa using h2.2
      exact ⟨k + d, by omega, il_same P es k d (by omega) h2.1, by omega, hp, h3.symm⟩
    | false =>
      rw [← Nat.add_assoc, il_miss (by omega) hp] at he
      exact ih (by omega) he
theorem il_prefix (P : Ev → Bool) (es : List Ev) (k m : Nat) (x : Nat × Ev) (hk : k ≤ es.length) (hm : m ≤ es.length) (he : il P es m = il P es k ++ [x]) : NextP P es k x := by
  by_cases h : k ≤ m
  · obtain ⟨d, rfl⟩ : ∃ d, m = k + d := ⟨m - k, by omega⟩
    exact il_next P es k d x hm he
  · obtain ⟨d, rfl⟩ : ∃ d, k = m + d := ⟨k - m, by omega⟩
    have h1 := il_mono P es m d hk
    have h2 := congrArg List.length he
    simp at h2
    omega
theorem il_go (P : Ev → Bool) (es : List Ev) (k m : Nat) (hkm : k ≤ m) (hm : m ≤ es.length) (h : ∀ j (hj : j < es.length), k ≤ j → j < m → P es[j] = false) : il P es m = il P es k := by
  obtain ⟨d, rfl⟩ : ∃ d, m = k + d := ⟨m - k, by omega⟩
  induction d with
  | zero => rfl
  | succ d ih => rw [← Nat.add_assoc, il_miss (by omega) (h (k + d) (by omega) (by omega) (by omega)), ih (by omega) (by omega) fun j hj h1 h2 => h j hj h1 (by omega)]
/-- Nothing but the block B has changed. -/
structure OnlyAt (B : Nat) (W W' : World) : Prop where
  os : W'.os = W.os
  tape : W'.tape = W.tape
  output : W'.output = W.output
  size : W'.heap.size = W.heap.size
  block : ∀ k, k ≠ B → W'.heap[k]? = W.heap[k]?
theorem OnlyAt.refl (B : Nat) (W : World) : OnlyAt B W W := ⟨rfl, rfl, rfl, rfl, fun _ _ => rfl⟩
theorem OnlyAt.drew {B : Nat} {W W' : World} (h : OnlyAt B W W') : OnlyAt B W W'.drew := ⟨h.os, h.tape, h.output, h.size, h.block⟩
theorem OnlyAt.drewN {B : Nat} {W W' : World} (h : OnlyAt B W W') (n : Nat) : OnlyAt B W (W'.drewN n) := ⟨h.os, h.tape, h.output, h.size, h.block⟩
theorem OnlyAt.set {B : Nat} {W W' : World} (h : OnlyAt B W W') (v : Value) : OnlyAt B W (W'.setCell ⟨B, 0, none⟩ v) :=
  ⟨h.os, h.tape, h.output, (heap_set _ _ _).trans h.size, fun k hk => (Below.heap_setCell _ _ _ k hk).trans (h.block k hk)⟩
theorem OnlyAt.cell {B : Nat} {W W' : World} (h : OnlyAt B W W') {p : Addr} {v : Value} (hc : W.cell? p = some v) (hp : p.block ≠ B) : W'.cell? p = some v := (World.cell?_of_block (a := p) (h.block p.block hp)).trans hc
theorem OnlyAt.below {B n : Nat} {W W' : World} (h : OnlyAt B W W') (hn : n ≤ B) (hs : n ≤ W.heap.size) : Below n W W' := ⟨h.os, h.tape, h.output, by rw [h.size]; exact Nat.le_refl _, fun k hk => h.block k (by omega)⟩
theorem OnlyAt.ko {B n : Nat} {W W' : World} (h : OnlyAt B W W') : Ko n B W W' := ⟨fun k _ hk => h.block k hk, by rw [h.size]; exact Nat.le_refl _⟩
theorem OnlyAt.grown {B : Nat} {W W' : World} (h : OnlyAt B W W') : W.grownBy W' (some B) := ⟨h.os, h.tape, h.output, by rw [h.size]; exact Nat.le_refl _, fun k _ hk => h.block k (fun e => hk (by rw [e]))⟩
theorem next_eq {P : Ev → Bool} {es : List Ev} {k m : Nat} {x : Nat × Ev} (hm : m < es.length) (hkm : k ≤ m) (hp : P es[m] = true) (h : ∀ j (hj : j < es.length), k ≤ j → j < m → P es[j] = false) (hn : NextP P es k x) : x = (m, es[m]) := by
  obtain ⟨q, h1, h2, h3, h4, h5⟩ := hn
  have e : q = m := by
    rcases Nat.lt_trichotomy q m with hl | hl | hl
    · have := h q h3 h1 hl
      rw [h4] at this
      cases this
    · exact hl
    · have := h2 m hm hkm hl
      rw [hp] at this
      cases this
  subst e
  exact h5
theorem next_none {P : Ev → Bool} {es : List Ev} {k : Nat} {x : Nat × Ev} (h : ∀ j (hj : j < es.length), k ≤ j → P es[j] = false) : ¬ NextP P es k x := by
  rintro ⟨q, h1, h2, h3, h4, h5⟩
  have := h q h3 h1
  rw [h4] at this
  cases this
/-- What a box of a number holds. -/
def boxN (W : World) (B : Nat) : Nat := match W.cell? ⟨B, 0, none⟩ with | some (.int _ v) => v.toNat | _ => 0
theorem boxN_eq {W : World} {B k : Nat} {t : TypeId} (h : Boxed W B t (.int .i64 (k : Int))) : boxN W B = k := by unfold boxN; rw [h.cell]; simp
theorem Only.out {K : Act → World → Prop} {a : Act} {w : World} (h : K a w) : Only K .normal a w := h
theorem OnlyAt.from {B n : Nat} {W W' : World} (h : OnlyAt B W W') (hB : B < n) : KeepsFrom n W W' := ⟨Nat.le_of_eq h.size.symm, fun k o hk hh _ => (h.block k (by omega)).trans hh⟩
theorem keepsFrom_set {n : Nat} {W W' : World} (h : KeepsFrom n W W') (c : Addr) (v : Value) (hc : c.block < n) : KeepsFrom n W (W'.setCell c v) :=
  ⟨Nat.le_trans h.size (Nat.le_of_eq (heap_set _ _ _).symm), fun k o hk hh ho => (Below.heap_setCell _ _ _ k (by omega)).trans (h.same k o hk hh ho)⟩
theorem evNe (p o h a y p' o' h' a' y' : Nat) (w : World) :
    (if (p : Int) = p' then if (o : Int) = o' then if (h : Int) = h' then if (a : Int) = a' then if (y : Int) = y' then Result.ok (Next.value (Value.bool false)) w else Result.ok (Next.value (Value.bool true)) w else Result.ok (Next.value (Value.bool true)) w else Result.ok (Next.value (Value.bool true)) w else Result.ok (Next.value (Value.bool true)) w else Result.ok (Next.value (Value.bool true)) w)
      = Result.ok (Next.value (Value.bool (!decide ((p, o, h, a, y) = (p', o', h', a', y'))))) w := by
  by_cases h1 : p = p' <;> by_cases h2 : o = o' <;> by_cases h3 : h = h' <;> by_cases h4 : a = a' <;> by_cases h5 : y = y' <;> simp [h1, h2, h3, h4, h5, Int.natCast_inj]
theorem region_wide {P : Program} {n id : Nat} {ops : Array Oper} {Q : Exit → Act → World → Prop} {S : World → Prop} {a : Act} {w : World} (hm : P.follows .mixedOrders = true) (hS : S w.drew)
    (h : S w.drew → wpAnyH P .any ops (Only fun a' w' => Q .normal a' w') S ops.size (Array.replicate ops.size false) a w.drew) : (Code.region id ops true).wpIn Fence.wide n P Q a w :=
  wpIn_wide.2 (Code.wp_mono (fun e a w h => by cases e <;> first | exact h | exact (h : False).elim) (wp_region_held_drew hm hS h))
end Go.Proofs.Ytmhmaodnkifcaaa
