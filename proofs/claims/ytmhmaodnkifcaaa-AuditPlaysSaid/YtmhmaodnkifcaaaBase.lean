/-
  Words for memory that every later text of this seat uses: a slice that reads as a list, a row that the call made, and the append that keeps both. No program is named here.
-/
import Derived.Below
import Derived.Laws.OwnMore
import Derived.Laws.BytesArg
import Derived.Maps.AppendAt
import Derived.OwnWalk
import Derived.WalkKit
namespace Go.Proofs.Ytmhmaodnkifcaaa
open Go.RowKit

/-- A fact kept from the walk. -/
theorem hid {p : Prop} (h : p) : Hid p := h

/-- The slice value at address A holds the cells xs, and lies below block B. -/
def Sl (w : World) (B : Nat) (A : Option Addr) (xs : List Value) : Prop :=
  xs = [] ∨ ∃ b off, A = some ⟨b, off, none⟩ ∧ b < B ∧ ∀ j u, xs[j]? = some u → w.cell? ⟨b, off + j, none⟩ = some u

section
variable {w w' : World} {B B' : Nat} {A : Option Addr} {xs : List Value}

theorem Sl.nil (w : World) (B : Nat) (A : Option Addr) : Sl w B A [] := .inl rfl

theorem Sl.keep (h : Sl w B A xs) (hk : ∀ p : Addr, p.block < B → w'.cell? p = w.cell? p) : Sl w' B A xs := by
  rcases h with h | ⟨b, off, hA, hb, hc⟩
  · exact .inl h
  · exact .inr ⟨b, off, hA, hb, fun j u hu => (hk ⟨b, off + j, none⟩ hb).trans (hc j u hu)⟩

theorem Sl.mono (h : Sl w B A xs) (hB : B ≤ B') : Sl w B' A xs := by
  rcases h with h | ⟨b, off, hA, hb, hc⟩
  · exact .inl h
  · exact .inr ⟨b, off, hA, by omega, hc⟩

theorem Sl.below (h : Sl w B A xs) (hb : Below B w w') : Sl w' B A xs := h.keep fun _ hp => hb.cell hp

theorem Sl.drew (h : Sl w B A xs) : Sl w.drew B A xs := h

theorem Sl.at_ (h : Sl w B A xs) {k : Nat} (hk : k < xs.length) : ∃ b off, A = some ⟨b, off, none⟩ ∧ b < B ∧ w.cell? ⟨b, off + k, none⟩ = some xs[k] := by
  rcases h with h | ⟨b, off, hA, hb, hc⟩
  · subst h; simp at hk
  · exact ⟨b, off, hA, hb, hc k _ (List.getElem?_eq_getElem hk)⟩

theorem Sl.take (h : Sl w B A xs) (k : Nat) : Sl w B A (xs.take k) := by
  rcases h with h | ⟨b, off, hA, hb, hc⟩
  · exact .inl (by rw [h]; simp)
  · refine .inr ⟨b, off, hA, hb, fun j u hu => hc j u ?_⟩
    rw [List.getElem?_take] at hu
    split at hu
    · exact hu
    · cases hu

/-- A cut from k on: the model keeps the address where the cut stands at the capacity. -/
theorem Sl.cut (h : Sl w B A xs) {k c : Nat} (hc : xs.length ≤ c) (s : Nat) (hs : s = 1) : Sl w B (if c = k then A else A.map (·.add (k * s))) (xs.drop k) := by
  subst hs
  rcases h with h | ⟨b, off, hA, hb, hcell⟩
  · exact .inl (by rw [h]; simp)
  · by_cases hk : c = k
    · exact .inl (List.drop_eq_nil_of_le (by omega))
    · rw [if_neg hk, hA]
      refine .inr ⟨b, off + k, by simp [Addr.add_lit], hb, fun j u hu => ?_⟩
      rw [List.getElem?_drop] at hu
      rw [Nat.add_assoc]
      exact hcell _ u hu

theorem Sl.of_own {base : Nat} {e : TypeId} {size n c : Nat} (h : w.ownsRow base e size (.slice A n c) n xs) : Sl w w.heap.size A xs := by
  rcases h.2 with ⟨hv, hn⟩ | ⟨g, cap, cur, hv, hb, hg, _⟩
  · exact .inl (List.eq_nil_of_length_eq_zero (by rw [h.1, hn]; simp))
  · injection hv with hA
    refine .inr ⟨g, 0, hA, (Array.getElem?_eq_some_iff.1 hg).1, fun j u hu => ?_⟩
    have := h.cells (g := g) (by rw [hA]; rfl) j u hu
    rw [Addr.add_lit] at this
    exact this

/-- The same, told apart from what is written later: it lies from 'base' on. -/
theorem own_form {base : Nat} {e : TypeId} {size n : Nat} {v : Value} (h : w.ownsRow base e size v n xs) : ∃ A c, v = .slice A n c ∧ n ≤ c ∧ c ≤ maxLen := by
  rcases h.2 with ⟨hv, hn⟩ | ⟨g, cap, cur, hv, _, _, hnc, hcm, _⟩
  · exact ⟨none, 0, by rw [hv, hn], by omega, Nat.zero_le _⟩
  · exact ⟨_, cap, hv, hnc, hcm⟩

theorem own_le {base : Nat} {e : TypeId} {size n : Nat} {A : Option Addr} {c : Nat} (h : w.ownsRow base e size (.slice A n c) n xs) : n ≤ c := by
  obtain ⟨_, _, h1, h2, _⟩ := own_form h
  injection h1 with _ _ h1
  omega

theorem own_below {base : Nat} {e : TypeId} {size n : Nat} {v : Value} (h : w.ownsRow base e size v n xs) (hb : Below w.heap.size w w') : w'.ownsRow base e size v n xs :=
  h.kept (row := none) ⟨hb.os, hb.tape, hb.output, hb.size, fun k hk _ => hb.block k hk⟩ (by cases v.ownBlock <;> simp)

theorem own_base {base base' : Nat} {e : TypeId} {size n : Nat} {v : Value} (h : w.ownsRow base e size v n xs) (hb : base' ≤ base) : w.ownsRow base' e size v n xs := by
  obtain ⟨h1, h2⟩ := h
  refine ⟨h1, ?_⟩
  rcases h2 with h2 | ⟨g, cap, cur, hv, hg, r⟩
  · exact .inl h2
  · exact .inr ⟨g, cap, cur, hv, by omega, r⟩

theorem below_grown {B : Nat} {a : World} {row : Option Nat} (h : Below B a w) (hg : w.grownBy w' row) (hB : B ≤ w.heap.size) (hr : ∀ k, row = some k → B ≤ k) : Below B a w' := h.grown hg hB hr

theorem own_lt {base : Nat} {e : TypeId} {size n : Nat} {v : Value} (h : w.ownsRow base e size v n xs) : ∀ k, v.ownBlock = some k → base ≤ k := fun k hk => (h.lt k hk).1
end

/-- What a draw ahead of a call turns: nothing. -/
theorem undrew {w w' : World} (h : Below w.drew.heap.size w.drew w') : Below w.heap.size w w' := (Below.refl w.heap.size w).drew.trans h

/-- append onto a row of the call's own; the source is whatever reads as a list: nil, empty, an argument, another row. -/
theorem run_app {P : Program} (w : World) (base : Nat) (t ty e : TypeId) (i : TypeInfo) (z : Value) (size bytes : Nat) (ht : P.underlying t = some (.slice e)) (hi : P.info? e = some i) (hz : i.zero = some z)
    (hsize : i.size = size) (hby : i.bytes = bytes) (hzs : z.cells.size = size) (hsz : 0 < size)
    (v : Value) (n : Nat) (xs : List Value) (hown : w.ownsRow base e size v n xs)
    (A : Option Addr) (B m c : Nat) (news : List Value) (hl : news.length = m * size) (hnews : Sl w B A news) (h1 : ∀ u ∈ news, u.oneCell' = true)
    (h63 : n + m ≤ maxLen) (hbytes : (n + m) * bytes ≤ 140737488355328) (hbase : base ≤ w.heap.size) :
    ∃ A' c' w', (Builtin.append_ #[t, t] ty #[v, .slice A m c]).run P w = .ok (.slice A' (n + m) c') w' ∧ w'.ownsRow base e size (.slice A' (n + m) c') (n + m) (xs ++ news) ∧ w.grownBy w' v.ownBlock ∧
      ((Value.slice A' (n + m) c').ownBlock = v.ownBlock ∨ (Value.slice A' (n + m) c').ownBlock = some w.heap.size) := by
  rcases A with _ | ad
  · have hn : news = [] := by
      rcases hnews with h | ⟨_, _, h, _⟩
      · exact h
      · cases h
    subst hn
    have hm : m = 0 := by
      have : m * size = 0 := by simpa using hl.symm
      rcases Nat.mul_eq_zero.1 this with h | h
      · exact h
      · omega
    subst hm
    obtain ⟨A', c', hv, _, _⟩ := own_form hown
    subst hv
    refine ⟨A', c', w, ?_, by simpa using hown, ⟨rfl, rfl, rfl, Nat.le_refl _, fun _ _ _ => rfl⟩, .inl rfl⟩
    rcases hown.2 with ⟨hv, hn⟩ | ⟨g, cap, cur, hv, _, hh, hnc, _⟩
    · injection hv with hA hN hC
      subst hA; subst hN; subst hC
      simp [Builtin.append_, run_underlying ht, sizeOf, typeInfo, hi, Builtin.lenOf, Builtin.firstCells]
    · injection hv with hA hN hC
      subst hA; subst hC
      simp [Builtin.append_, run_underlying ht, sizeOf, typeInfo, hi, Builtin.lenOf, Builtin.firstCells, hnc, storeCells]
  · have hcells : ∀ j u, news[j]? = some u → w.cell? (ad.add j) = some u := by
      intro j u hu
      rcases hnews with h | ⟨b, off, hA, _, hc⟩
      · subst h; simp at hu
      · injection hA with hA
        subst hA
        rw [Addr.add_lit]
        exact hc j u hu
    obtain ⟨v', w', hrun, h2, h3, _, h5⟩ := run_append_own_at (P := P) w base t ty e i z size bytes ht hi hz hsize hby hzs hsz v n xs hown ad m c news hl hcells h1 h63 hbytes hbase
    obtain ⟨A', c', hv, _, _⟩ := own_form h2
    subst hv
    exact ⟨A', c', w', hrun, h2, h3, h5⟩

theorem wp_app {P : Program} {w : World} {o : Oper} {a : Act} {K : Act → World → Prop} {Q : Exit → Act → World → Prop} (s x : Operand) (t : TypeId)
    (ho : o.op = .call { callee := .builtin .append, args := #[s, x], argTypes := #[t, t] })
    (base : Nat) (e : TypeId) (i : TypeInfo) (z : Value) (size bytes : Nat) (ht : P.underlying t = some (.slice e)) (hi : P.info? e = some i) (hz : i.zero = some z)
    (hsize : i.size = size) (hby : i.bytes = bytes) (hzs : z.cells.size = size) (hsz : 0 < size)
    (v : Value) (n : Nat) (xs : List Value) (hs : a.eval s = v) (hown : w.ownsRow base e size v n xs)
    (A : Option Addr) (B m c : Nat) (news : List Value) (hx : a.eval x = .slice A m c) (hl : news.length = m * size) (hnews : Sl w B A news) (h1 : ∀ u ∈ news, u.oneCell' = true)
    (h63 : n + m ≤ maxLen) (hbytes : (n + m) * bytes ≤ 140737488355328) (hbase : base ≤ w.heap.size)
    (h : ∀ A' c' w', w'.ownsRow base e size (.slice A' (n + m) c') (n + m) (xs ++ news) → w.grownBy w' v.ownBlock → ((Value.slice A' (n + m) c').ownBlock = v.ownBlock ∨ (Value.slice A' (n + m) c').ownBlock = some w.heap.size) → K (a.put o.dst (.slice A' (n + m) c')) w') : o.wp P a w K Q := by
  obtain ⟨A', c', w', hrun, h2, h3, h4⟩ := run_app (P := P) w base t o.type e i z size bytes ht hi hz hsize hby hzs hsz v n xs hown A B m c news hl hnews h1 h63 hbytes hbase
  unfold Oper.wp execOp
  simp only [ho, resolve, invoke, builtin, Sem.run_bind, Sem.run_pure, Result.andThen_ok, List.map_toArray, List.map_cons, List.map_nil, hs, hx, hrun]
  exact h A' c' w' h2 h3 h4

/-- The same where the walk stands at a list of operations. -/
theorem wpList_app {P : Program} {w : World} {ops : Array Oper} {rest : List Oper} {o : Oper} {a : Act} {Q : Exit → Act → World → Prop} (hgd : o.guard = none) (s x : Operand) (t : TypeId)
    (ho : o.op = .call { callee := .builtin .append, args := #[s, x], argTypes := #[t, t] })
    (base : Nat) (e : TypeId) (i : TypeInfo) (z : Value) (size bytes : Nat) (ht : P.underlying t = some (.slice e)) (hi : P.info? e = some i) (hz : i.zero = some z)
    (hsize : i.size = size) (hby : i.bytes = bytes) (hzs : z.cells.size = size) (hsz : 0 < size)
    (v : Value) (n : Nat) (xs : List Value) (hs : a.eval s = v) (hown : w.ownsRow base e size v n xs)
    (A : Option Addr) (B m c : Nat) (news : List Value) (hx : a.eval x = .slice A m c) (hl : news.length = m * size) (hnews : Sl w B A news) (h1 : ∀ u ∈ news, u.oneCell' = true)
    (h63 : n + m ≤ maxLen) (hbytes : (n + m) * bytes ≤ 140737488355328) (hbase : base ≤ w.heap.size)
    (h : ∀ A' c' w', w'.ownsRow base e size (.slice A' (n + m) c') (n + m) (xs ++ news) → w.grownBy w' v.ownBlock → ((Value.slice A' (n + m) c').ownBlock = v.ownBlock ∨ (Value.slice A' (n + m) c').ownBlock = some w.heap.size) → wpList P ops Q rest (a.put o.dst (.slice A' (n + m) c')) w') : wpList P ops Q (o :: rest) a w :=
  wpList_plain hgd fun _ hK => wp_app s x t ho base e i z size bytes ht hi hz hsize hby hzs hsz v n xs hs hown A B m c news hx hl hnews h1 h63 hbytes hbase fun A' c' w' h2 h3 h4 => hK _ _ (h A' c' w' h2 h3 h4)

/-- The same for elements of one cell, the numbers as the walk has them. -/
theorem wp_app1 {P : Program} {w : World} {ops : Array Oper} {rest : List Oper} {o : Oper} {a : Act} {Q : Exit → Act → World → Prop} {t e : TypeId} {z : Value} {bytes : Nat} (ht : P.underlying t = some (.slice e))
    (hinfo : (P.info? e).map (fun i => (i.zero, i.size, i.bytes)) = some (some z, 1, bytes)) (hz : z.cells.size = 1) (hby : bytes ≤ 64) (hgd : o.guard = none) (s x : Operand)
    (ho : o.op = .call { callee := .builtin .append, args := #[s, x], argTypes := #[t, t] })
    (base : Nat) (A1 : Option Addr) (n c1 : Nat) (xs : List Value) (hs : a.eval s = .slice A1 n c1) (hown : w.ownsRow base e 1 (.slice A1 n c1) n xs)
    (A2 : Option Addr) (B m c2 : Nat) (news : List Value) (hx : a.eval x = .slice A2 m c2) (hl : news.length = m) (hsl : Sl w B A2 news) (h1 : ∀ u ∈ news, u.oneCell' = true)
    (N : Nat) (hN : n + m = N) (hb : N ≤ 1099511627776) (hbase : base ≤ w.heap.size)
    (h : ∀ A' c' w', w'.ownsRow base e 1 (.slice A' N c') N (xs ++ news) → w.grownBy w' (Value.slice A1 n c1).ownBlock → ((Value.slice A' N c').ownBlock = (Value.slice A1 n c1).ownBlock ∨ (Value.slice A' N c').ownBlock = some w.heap.size) →
      wpList P ops Q rest (a.put o.dst (.slice A' N c')) w') : wpList P ops Q (o :: rest) a w := by
  subst hN
  obtain ⟨i0, hi, hz0, hz1, hz2⟩ := info_parts hinfo
  exact wpList_app hgd s x t ho base e i0 z 1 bytes ht hi hz0 hz1 hz2 hz (by decide) _ n _ hs hown A2 B m c2 news hx (by simp [hl]) hsl h1 (by unfold maxLen; omega) (Nat.le_trans (Nat.mul_le_mul hb hby) (by decide)) hbase h

/-- Numbers as values. -/
def nums (k : IntKind) (zs : List Int) : List Value := zs.map (Value.int k)
@[simp] theorem nums_length (k : IntKind) (zs : List Int) : (nums k zs).length = zs.length := by simp [nums]
theorem nums_one (k : IntKind) (zs : List Int) : ∀ u ∈ nums k zs, u.oneCell' = true := by
  intro u hu
  obtain ⟨_, _, rfl⟩ := List.mem_map.1 hu
  rfl
theorem nums_append (k : IntKind) (a b : List Int) : nums k (a ++ b) = nums k a ++ nums k b := by simp [nums]
theorem nums_take (k : IntKind) (l : List Int) (n : Nat) : nums k (l.take n) = (nums k l).take n := by simp [nums, List.map_take]
theorem nums_drop (k : IntKind) (l : List Int) (n : Nat) : nums k (l.drop n) = (nums k l).drop n := by simp [nums, List.map_drop]
theorem Sl.num {w : World} {B : Nat} {A : Option Addr} {k : IntKind} {l : List Int} (h : Sl w B A (nums k l)) {i : Nat} (hi : i < l.length) :
    ∃ b off, A = some ⟨b, off, none⟩ ∧ b < B ∧ w.cell? ⟨b, off + i, none⟩ = some (.int k l[i]) := by
  obtain ⟨b, off, h1, h2, h3⟩ := h.at_ (k := i) (by simpa using hi)
  exact ⟨b, off, h1, h2, by rw [h3]; simp [nums]⟩

/-! ### Bytes -/
/-- A byte as the model's value. -/
def u8v (c : UInt8) : Value := .int .u8 (c.toNat : Int)
/-- Bytes as values. -/
def bys (l : List UInt8) : List Value := l.map u8v
@[simp] theorem bys_length (l : List UInt8) : (bys l).length = l.length := by simp [bys]
theorem bys_append (a b : List UInt8) : bys (a ++ b) = bys a ++ bys b := by simp [bys]
theorem bys_take (l : List UInt8) (k : Nat) : bys (l.take k) = (bys l).take k := by simp [bys, List.map_take]
theorem bys_drop (l : List UInt8) (k : Nat) : bys (l.drop k) = (bys l).drop k := by simp [bys, List.map_drop]
theorem bys_one (l : List UInt8) : ∀ u ∈ bys l, u.oneCell' = true := by
  intro u hu
  obtain ⟨_, _, rfl⟩ := List.mem_map.1 hu
  rfl
theorem bys_get (l : List UInt8) (k : Nat) (hk : k < (bys l).length) : (bys l)[k] = .int .u8 ((l[k]'(by simpa using hk)).toNat : Int) := by simp [bys, u8v]
theorem u8_lt (c : UInt8) : c.toNat < 256 := c.toNat_lt

theorem Sl.byte {w : World} {B : Nat} {A : Option Addr} {l : List UInt8} (h : Sl w B A (bys l)) {k : Nat} (hk : k < l.length) :
    ∃ b off, A = some ⟨b, off, none⟩ ∧ b < B ∧ w.cell? ⟨b, off + k, none⟩ = some (.int .u8 (l[k].toNat : Int)) := by
  obtain ⟨b, off, h1, h2, h3⟩ := h.at_ (k := k) (by simpa using hk)
  exact ⟨b, off, h1, h2, by rw [h3, bys_get]⟩

/-- What a slice of integers that came in reads as: bytes. -/
theorem bytes_of_ints (zs : List Int) (hw : ∀ n ∈ zs, (Lit.int .u8 n).wf = true) : ∃ l : List UInt8, zs = l.map fun c => (c.toNat : Int) := by
  refine ⟨zs.map fun z => UInt8.ofNat z.toNat, ?_⟩
  rw [List.map_map]
  conv => lhs; rw [← List.map_id zs]
  refine List.map_congr_left fun z hz => ?_
  have h := hw z hz
  simp [Lit.wf, IntKind.min, IntKind.max, IntKind.signed, IntKind.bits] at h
  simp [UInt8.toNat_ofNat']
  omega

/-- One new cell, a new row of cells. -/
theorem Sl.new (w : World) (cs : Array Value) (t : TypeId) (fz : Nat × Nat) : Sl (w.alloc (.cells cs t fz)) (w.heap.size + 1) (some ⟨w.heap.size, 0, none⟩) cs.toList := by
  refine .inr ⟨_, _, rfl, by omega, fun j u hu => ?_⟩
  have : (w.alloc (.cells cs t fz)).heap[w.heap.size]? = some (.cells cs t fz) := heap_alloc_new w _
  simp only [World.cell?, this, Nat.zero_add]
  simpa using hu

/-- A slice literal of no element. -/
theorem own_empty (w : World) (e : TypeId) (base : Nat) (hb : base ≤ w.heap.size) : (w.alloc (.cells #[] e)).ownsRow base e 1 (.slice (some ⟨w.heap.size, 0, none⟩) 0 0) 0 (bys []) :=
  World.ownsRow_made w #[] 0 hb (Nat.zero_le _) (by simp)

/-- Where a row of the call lies that holds something. -/
theorem own_at {w : World} {base : Nat} {e : TypeId} {A : Option Addr} {n c : Nat} {xs : List Value} (h : w.ownsRow base e 1 (.slice A n c) n xs) (hn : 0 < n) : ∃ g, A = some ⟨g, 0, none⟩ ∧ base ≤ g ∧ g < w.heap.size := by
  rcases h.2 with ⟨_, h0⟩ | ⟨g, cap, cur, hv, hb, hg, _⟩
  · omega
  · injection hv with hA
    exact ⟨g, hA, hb, (Array.getElem?_eq_some_iff.1 hg).1⟩

theorem bys_set (l : List UInt8) (i : Nat) (x : UInt8) : (bys l).set i (u8v x) = bys (l.set i x) := by simp [bys, List.map_set]

theorem own_cell {w : World} {base : Nat} {e : TypeId} {g n c : Nat} {l : List UInt8} (h : w.ownsRow base e 1 (.slice (some ⟨g, 0, none⟩) n c) n (bys l)) {i : Nat} {y : UInt8} (hi : i < n) (hy : l[i]? = some y) : w.cell? ⟨g, i, none⟩ = some (.int .u8 (y.toNat : Int)) := by
  rw [h.cellAt i (by omega)]
  simp [bys, u8v, hy]

theorem own_set {w : World} {base : Nat} {e : TypeId} {g n c : Nat} {l : List UInt8} (h : w.ownsRow base e 1 (.slice (some ⟨g, 0, none⟩) n c) n (bys l)) (i : Nat) (y : UInt8) :
    (w.setCell ⟨g, i, none⟩ (.int .u8 (y.toNat : Int))).ownsRow base e 1 (.slice (some ⟨g, 0, none⟩) n c) n (bys (l.set i y)) := by
  have := (h.stored i (.int .u8 (y.toNat : Int))).1
  rw [← bys_set]
  exact this

/-! ### string(b) -/
/-- A string as its bytes. -/
def strOf (l : List UInt8) : ByteArray := ⟨l.toArray⟩
theorem run_str {P : Program} (w : World) (src e dst : TypeId) (hs : P.underlying src = some (.slice e)) (he : P.underlying e = some (.int .u8)) (hd : P.underlying dst = some .string)
    (B : Nat) (A : Option Addr) (n c : Nat) (l : List UInt8) (hn : l.length = n) (h : Sl w B A (bys l)) :
    (convert src dst (.slice A n c)).run P w = .ok (.string (strOf l)) w := by
  have key : ∀ l : List UInt8, strOfNums (l.map fun c => (c.toNat : Int)) = strOf l := by
    intro l
    simp only [strOfNums, strOf, List.map_map]
    congr 2
    conv => rhs; rw [← List.map_id l]
    exact List.map_congr_left fun c _ => by simp
  subst hn
  rcases h with h | ⟨b, off, rfl, _, hc⟩
  · have hl : l = [] := by simpa [bys] using h
    subst hl
    rw [show ([] : List UInt8).length = 0 from rfl]
    rcases A with _ | ⟨b, off, sp⟩
    · rw [run_convert_bytes_nil w src e hs he 0 c dst hd]
      rfl
    · rw [run_convert_bytes_string w src dst e _ 0 c hs he hd, run_bytesToString w _ 0 c [] (by simp [loadCells, loadCellsFrom])]
      rfl
  · rw [run_convert_bytes_arg w src e hs he b off l.length c (l.map fun c => (c.toNat : Int)) (by simp) (fun i hi => ?_) dst hd, key]
    rw [hc i (.int .u8 (l[i].toNat : Int)) (by simp [bys, u8v, hi])]
    simp [List.getD, hi]
theorem strOf_toList (l : List UInt8) : (strOf l).toList = l := ByteArray.toList_mk l
theorem strOf_inj {a b : List UInt8} (h : strOf a = strOf b) : a = b := by
  have := congrArg (fun s : ByteArray => s.data.toList) h
  simpa [strOf] using this

end Go.Proofs.Ytmhmaodnkifcaaa
