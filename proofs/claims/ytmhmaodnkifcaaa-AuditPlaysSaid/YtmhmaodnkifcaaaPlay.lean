/-
  Events appended one after the other; a log beside what was there when it began.
-/
import Derived.Test.YtmhmaodnkifcaaaLogB
import Derived.Test.YtmhmaodnkifcaaaEvs
namespace Go.Proofs.Ytmhmaodnkifcaaa
open Go.RowKit
set_option linter.unusedSimpArgs false
set_option linter.unusedVariables false

/-- The log behind events. -/
def plays (cap : Nat) (l : List Ev) : List Ev := l.foldl (apE cap) []
theorem plays_snoc (cap : Nat) (l : List Ev) (e : Ev) : plays cap (l ++ [e]) = apE cap (plays cap l) e := by simp [plays]
theorem plays_take (cap : Nat) (l : List Ev) (k : Nat) (hk : k < l.length) : plays cap (l.take (k + 1)) = apE cap (plays cap (l.take k)) l[k] := by
  rw [← List.take_append_getElem hk, plays_snoc]
theorem apE_mem {cap : Nat} {es : List Ev} {e x : Ev} (h : x ∈ apE cap es e) : x ∈ es ∨ x = e := by
  unfold apE at h
  split at h
  · exact .inl h
  · rcases List.mem_append.1 h with h | h
    · exact .inl h
    · simp at h; exact .inr h
theorem plays_mem {cap : Nat} (l : List Ev) : ∀ x ∈ plays cap l, x ∈ l := by
  have key : ∀ (l acc : List Ev), ∀ x ∈ l.foldl (apE cap) acc, x ∈ acc ∨ x ∈ l := by
    intro l
    induction l with
    | nil => intro acc x hx; exact .inl hx
    | cons e l ih =>
      intro acc x hx
      rcases ih _ x hx with h | h
      · rcases apE_mem h with h | h
        · exact .inl h
        · exact .inr (by simp [h])
      · exact .inr (by simp [h])
  intro x hx
  rcases key l [] x hx with h | h
  · simp at h
  · exact h
theorem plays_len (cap : Nat) (l : List Ev) : (plays cap l).length ≤ l.length := by
  have key : ∀ (l acc : List Ev), (l.foldl (apE cap) acc).length ≤ acc.length + l.length := by
    intro l
    induction l with
    | nil => intro acc; simp
    | cons e l ih =>
      intro acc
      have := ih (apE cap acc e)
      have h2 : (apE cap acc e).length ≤ acc.length + 1 := by
        unfold apE; split <;> simp
      simp only [List.foldl_cons, List.length_cons]
      omega
  have := key l []
  simpa [plays] using this
/-- With room for all, all are in. -/
theorem plays_all (cap : Nat) (l : List Ev) (h : l.length ≤ cap) : plays cap l = l := by
  have key : ∀ n, n ≤ l.length → plays cap (l.take n) = l.take n := by
    intro n
    induction n with
    | zero => intro _; simp [plays]
    | succ n ih =>
      intro hn
      rw [plays_take cap l n (by omega), ih (by omega)]
      have h1 := recN_le (l.take n) (l[n]'(by omega)).1
      rw [List.length_take] at h1
      unfold apE
      rw [if_neg (by simp; intro _; omega), List.take_append_getElem]
  have := key l.length (Nat.le_refl _)
  simpa using this
theorem apR_room {cap : Nat} {es : List Ev} {e : Ev} (h : es.length < cap) : apR cap es e = 0 := by
  have := recN_le es e.1
  unfold apR
  rw [if_neg (by simp; intro _; omega)]
/-- The log in block g, begun in the world w; what else lay there is as it was. -/
def Lg (w : World) (g cap : Nat) (es : List Ev) (mis : Int → Nat) (q : Nat) (wr : World) : Prop :=
  ∃ F, LogAt wr F g cap es mis q ∧ Run w (fun k => k = g) wr F
section
variable {w wr w' : World} {g cap q : Nat} {es : List Ev} {mis : Int → Nat}
theorem Lg.start (h : LogAt w (fun k => k = g) g cap es mis q) : Lg w g cap es mis q w := ⟨_, h, Run.refl _ _⟩
theorem Lg.below (h : Lg w g cap es mis q wr) (hb : Below wr.heap.size wr w') : Lg w g cap es mis q w' := by
  obtain ⟨F, h1, h2⟩ := h
  exact ⟨F, h1.below hb, h2.below hb⟩
theorem Lg.own (h : Lg w g cap es mis q wr) {base n size : Nat} {e : TypeId} {v : Value} {xs : List Value} (ho : w.ownsRow base e size v n xs) (hg : v.ownBlock ≠ some g) : wr.ownsRow base e size v n xs := by
  obtain ⟨F, h1, h2⟩ := h
  exact h2.own ho fun k hk e => hg (by rw [e, hk])
theorem Lg.cell (h : Lg w g cap es mis q wr) {p : Addr} {v : Value} (hc : w.cell? p = some v) (hg : p.block ≠ g) : wr.cell? p = some v := by
  obtain ⟨F, h1, h2⟩ := h
  exact (World.cell?_of_block (a := p) (h2.turn.block p.block (World.block_lt_of_cell? w p hc) hg)).trans hc
theorem Lg.frame (h : Lg w g cap es mis q wr) {B : Nat} (hB : B ≤ w.heap.size) (hg : B ≤ g) : Below B w wr := by
  obtain ⟨F, h1, h2⟩ := h
  exact h2.turn.below hB fun k hk e => by omega
theorem Lg.size (h : Lg w g cap es mis q wr) : w.heap.size ≤ wr.heap.size := by
  obtain ⟨F, h1, h2⟩ := h
  exact h2.turn.size
end
/-- Append, at a log beside what was there. -/
theorem lg_append (w wr : World) (g cap q : Nat) (es : List Ev) (mis : Int → Nat) (p o h a x : Nat) (hl : Lg w g cap es mis q wr) (hr : Right (p, o, h, a, x)) (hq : q < 50000) :
    Calls Try.prog 14 #[.pointer (some ⟨g, 0, none⟩), evv p o h a x] wr fun e w' => e = .returned (.int .i64 (apR cap es (p, o, h, a, x))) ∧ Lg w g cap (apE cap es (p, o, h, a, x)) mis (q + 1) w' := by
  obtain ⟨F, h1, h2⟩ := hl
  refine (append_any F g cap q es mis p o h a x wr h1 hr hq).mono ?_
  rintro e w' ⟨rfl, F', h3, h4, h5⟩
  exact ⟨rfl, F', h3, h2.trans ⟨h4, h5⟩⟩
theorem lg_room (w wr : World) (g cap q : Nat) (es : List Ev) (mis : Int → Nat) (k : Int) (hl : Lg w g cap es mis q wr) (hk : (Lit.int .i64 k).wf = true) :
    Calls Try.prog 20 #[.pointer (some ⟨g, 0, none⟩), .int .i64 k] wr fun e w' => e = .returned (.bool (decide (recN es k < cap))) ∧ Below wr.heap.size wr w' := by
  obtain ⟨F, h1, h2⟩ := hl
  exact room_any F g cap q es _ mis k wr h1 hk
theorem lg_records (w wr : World) (g cap q : Nat) (es : List Ev) (mis : Int → Nat) (k : Int) (hl : Lg w g cap es mis q wr) (hk : (Lit.int .i64 k).wf = true) :
    Calls Try.prog 21 #[.pointer (some ⟨g, 0, none⟩), .int .i64 k] wr fun e w' => e = .returned (.int .i64 (recN es k)) ∧ w' = wr := by
  obtain ⟨F, h1, h2⟩ := hl
  exact records_any F g cap q es _ mis k wr h1 hk
theorem lg_bytes (w wr : World) (g cap q : Nat) (es : List Ev) (mis : Int → Nat) (hl : Lg w g cap es mis q wr) (hq : q < 100000) :
    Calls Try.prog 15 #[.pointer (some ⟨g, 0, none⟩)] wr (OwnBytes wr (logB fStart es) (logB fStart es).length) := by
  obtain ⟨F, h1, h2⟩ := hl
  exact bytes_of F g cap q es _ mis wr h1 hq
theorem lg_digest (w wr : World) (g cap q : Nat) (es : List Ev) (mis : Int → Nat) (hl : Lg w g cap es mis q wr) :
    Calls Try.prog 22 #[.pointer (some ⟨g, 0, none⟩)] wr fun e w' => e = .returned (.int .u64 (endD fStart es)) ∧ w' = wr := by
  obtain ⟨F, h1, h2⟩ := hl
  exact digest_any F g cap q es _ mis wr h1
theorem lg_len (w wr : World) (g cap q : Nat) (es : List Ev) (mis : Int → Nat) (hl : Lg w g cap es mis q wr) :
    Calls Try.prog 33 #[.pointer (some ⟨g, 0, none⟩)] wr fun e w' => e = .returned (.int .i64 es.length) ∧ w' = wr := by
  obtain ⟨F, h1, h2⟩ := hl
  exact len_any F g cap q es _ mis wr h1
theorem lg_right {w wr : World} {g cap q : Nat} {es : List Ev} {mis : Int → Nat} (hl : Lg w g cap es mis q wr) : ∀ e ∈ es, Right e := by
  obtain ⟨F, h1, h2⟩ := hl
  obtain ⟨_, _, _, _, _, _, _, _, _, h, _⟩ := h1.open
  exact h

/-- The cells of the k-th event of a row. -/
theorem ev_at {w : World} {base n c : Nat} {A : Option Addr} {es : List Ev} (h : w.ownsRow base 36 5 (.slice A n c) n (evs es)) (hn : es.length = n) {k : Nat} (hk : k < es.length) :
    ∃ b, A = some ⟨b, 0, none⟩ ∧ base ≤ b ∧ b < w.heap.size ∧ (Value.slice A n c).ownBlock = some b ∧
      w.cell? ⟨b, k * 5, none⟩ = some (.int .i64 (es[k].1 : Int)) ∧ w.cell? ⟨b, k * 5 + 1, none⟩ = some (.int .i64 (es[k].2.1 : Int)) ∧ w.cell? ⟨b, k * 5 + 2, none⟩ = some (.int .u64 (es[k].2.2.1 : Int)) ∧
      w.cell? ⟨b, k * 5 + 3, none⟩ = some (.int .u64 (es[k].2.2.2.1 : Int)) ∧ w.cell? ⟨b, k * 5 + 4, none⟩ = some (.int .i64 (es[k].2.2.2.2 : Int)) := by
  rcases h.2 with ⟨_, h0⟩ | ⟨b, cap, cur, hv, hb, hh, _⟩
  · omega
  · injection hv with hA
    subst hA
    have hlt := (Array.getElem?_eq_some_iff.1 hh).1
    have key : ∀ j v, (evc es[k])[j]? = some v → w.cell? ⟨b, k * 5 + j, none⟩ = some v := by
      intro j v hv
      have := h.cells (g := b) rfl (k * 5 + j) v (evs_get es k es[k] j v (List.getElem?_eq_getElem hk) hv)
      rw [Addr.add_lit, Nat.zero_add] at this
      exact this
    exact ⟨b, rfl, hb, hlt, rfl, key 0 _ rfl, key 1 _ rfl, key 2 _ rfl, key 3 _ rfl, key 4 _ rfl⟩
end Go.Proofs.Ytmhmaodnkifcaaa
