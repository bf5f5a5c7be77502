/-
  Miss of the log.
-/
import Derived.Test.YtmhmaodnkifcaaaLogB
import Derived.Test.YtmhmaodnkifcaaaRefM
namespace Go.Proofs.Ytmhmaodnkifcaaa
open Go.RowKit
set_option linter.unusedSimpArgs false
set_option linter.unusedVariables false

theorem LogF.grow5 {w w' : World} {F : Nat → Prop} {g cap q : Nat} {es : List Ev} {f mis : Int → Nat} {k : Int} {A1 A2 : Option Addr} {c1 c2 d : Nat} {m4 m5 : Option Nat}
    (h1 : w.ownsRow 0 36 5 (.slice A1 es.length c1) es.length (evs es)) (h2 : w.ownsRow 0 5 1 (.slice A2 (logB fStart es).length c2) (logB fStart es).length (bys (logB fStart es)))
    (hd : es ≠ [] → d = endD fStart es) (h4 : MapAt w m4 f q) (hne : ∀ b, m4 = some b → m5 ≠ some b) (hr : ∀ e ∈ es, Right e) (hq : es.length ≤ q) (hcap : cap ≤ 65536)
    (f0 : F g) (f1 : ∀ b, (Value.slice A1 es.length c1).ownBlock = some b → F b) (f2 : ∀ b, (Value.slice A2 (logB fStart es).length c2).ownBlock = some b → F b) (f4 : ∀ b, m4 = some b → F b) (f5 : ∀ b, m5 = some b → F b) (fs : ∀ b, F b → b < w.heap.size)
    (n1 : ∀ b, (Value.slice A1 es.length c1).ownBlock = some b → b ≠ g ∧ m5 ≠ some b) (n2 : ∀ b, (Value.slice A2 (logB fStart es).length c2).ownBlock = some b → b ≠ g ∧ m5 ≠ some b) (n4 : m4 ≠ some g)
    (b : Nat) (hb : m5 = some b ∨ w.heap.size ≤ b) (hblk : Blk w' g #[.int .i64 cap, .slice A1 es.length c1, .slice A2 (logB fStart es).length c2, .int .u64 d, .map m4, .map (some b)] 72)
    (hM : MapAt w' (some b) (bump mis k) (q + 1)) (hT : Turn (fun j => j = g ∨ m5 = some j) w w') : Step w F g cap es f (bump mis k) (q + 1) w' := by
  have keep : ∀ j, F j → j ≠ g → m5 ≠ some j → w'.heap[j]? = w.heap[j]? := fun j hj h3 h4 => hT.block j (fs j hj) (by simp [h3, h4])
  have hbl : b < w'.heap.size := by
    obtain ⟨n, D, _, ho, _⟩ := hM.2
    exact ho.lt
  refine ⟨fun j => F j ∨ j = b, ⟨A1, c1, A2, c2, d, m4, some b, hblk, own_kept h1 fun j e => keep j (f1 j e) (n1 j e).1 (n1 j e).2, own_kept h2 fun j e => keep j (f2 j e) (n2 j e).1 (n2 j e).2, hd,
    (h4.kept fun j e => keep j (f4 j e) (fun h => n4 (by rw [e, h])) (fun h => hne j e h)).more (by omega), hM, ?_, hr, by omega, hcap, .inl f0, fun j e => .inl (f1 j e), fun j e => .inl (f2 j e), fun j e => .inl (f4 j e), fun j e => .inr (by injection e with e; exact e.symm), ?_⟩, ?_, ?_⟩
  · intro j e h
    injection h with h
    subst h
    rcases hb with hb | hb
    · exact hne b e hb
    · have := fs b (f4 b e); omega
  · rintro j (h | rfl)
    · exact Nat.lt_of_lt_of_le (fs j h) hT.size
    · exact hbl
  · refine ⟨hT.os, hT.tape, hT.output, hT.size, fun j hj hn => hT.block j hj ?_⟩
    rintro (rfl | h)
    · exact hn f0
    · exact hn (f5 j h)
  · rintro j (h | rfl)
    · exact .inl h
    · rcases hb with hb | hb
      · exact .inl (f5 _ hb)
      · exact .inr hb

set_option maxRecDepth 100000 in
theorem miss_any (F : Nat → Prop) (g cap q : Nat) (es : List Ev) (f mis : Int → Nat) (k : Int) (w : World) (h : LogF w F g cap es f mis q) (hk : (Lit.int .i64 k).wf = true) (hq : q < 50000) :
    Calls Try.prog 29 #[.pointer (some ⟨g, 0, none⟩), .int .i64 k] w fun e w' => e = .returned (.tuple #[]) ∧ Step w F g cap es f (bump mis k) (q + 1) w' := by
  obtain ⟨A1, c1, A2, c2, d, m4, m5, hX, hd, hR, hq1, hcap⟩ := h.open
  have HG := hid (grow_any g 5 _ _ m5 mis q k w hX.blk rfl hX.h5 (apart2 hX.blk hX.h5) (by omega) hk)
  have HX := hid hX
  have HD := hid hd
  have HR := hid hR
  have HQ := hid hq1
  clear hX hd hR h
  go_enter Try.func29, Try.ntmps29
  go_wp2_with fail
  refine HG.out.mono ?_
  rintro e w1 ⟨rfl, b, hb, hblk, hM, hT⟩
  have HST := hid (LogF.grow5 (k := k) HX.out.r1 HX.out.r2 HD.out HX.out.h4 HX.out.ne HR.out HQ.out hcap HX.out.f0 HX.out.f1 HX.out.f2 HX.out.f4 HX.out.f5 HX.out.fs (apart1 HX.out.r1 HX.out.blk HX.out.h5 (by decide)) (apart1 HX.out.r2 HX.out.blk HX.out.h5 (by decide)) (apart2 HX.out.blk HX.out.h4) b hb hblk hM hT)
  clear hb hblk hM hT
  go_wp2
  go_end0
  exact ⟨rfl, HST.out⟩
theorem bump_mis (ms : List Int) (k : Int) : bump (fun z => misN ms z) k = fun z => misN (ms ++ [k]) z := by
  funext z
  unfold bump
  rw [misN_snoc]
  by_cases h : z = k
  · rw [if_pos h, if_pos h.symm]
  · rw [if_neg h, if_neg (fun e => h e.symm), Nat.add_zero]
end Go.Proofs.Ytmhmaodnkifcaaa
