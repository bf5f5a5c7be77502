/-
  The tape of the laws: More, Events.
-/
import Derived.Test.YtmhmaodnkifcaaaLogY
import Derived.Test.YtmhmaodnkifcaaaTapeEv
import Derived.Deep.QuietTactic
import Derived.BigQuiet
import Derived.WalkSmall
namespace Go.Proofs.Ytmhmaodnkifcaaa
open Go.RowKit
set_option linter.unusedSimpArgs false
set_option linter.unusedVariables false

set_option maxRecDepth 100000 in
theorem more_any (lo hi g n i : Nat) (w : World) (h : Tp w lo hi g n i) (hi2 : i < 1000000000) :
    Calls Try.prog 34 #[.pointer (some ⟨g, 0, none⟩)] w fun e w' => e = .returned (.bool (decide (i < n))) ∧ Below w.heap.size w w' := by
  obtain ⟨A, c, hbx, hnc, hcm, hlg, hgh, hhs, hl⟩ := h
  have h0 := hbx.c0
  have h1 := hbx.c1
  clear hbx hl
  go_enter Try.func34, Try.ntmps34
  go_wp2_with fail
  go_quiet (fail)
  go_wp2
  go_ret
  exact ⟨by simp, below_drewN (Below.refl _ _) _⟩
/-- Events that are right, of the plugins 1 to 3. -/
def Evs3 (es : List Ev) : Prop := ∀ e ∈ es, Right e ∧ e.1 ≤ 3
theorem Evs3.snoc {es : List Ev} {e : Ev} (h : Evs3 es) (he : Right e ∧ e.1 ≤ 3) : Evs3 (es ++ [e]) := by
  intro x hx
  rcases List.mem_append.1 hx with h1 | h1
  · exact h x h1
  · simp at h1; subst h1; exact he
theorem Evs3.right {es : List Ev} (h : Evs3 es) : ∀ e ∈ es, Right e := fun e he => (h e he).1
/-- What a round keeps. -/
def Ms (w : World) (lo hi g n i most : Nat) (v : Value) (len : Nat) (wr : World) : Prop :=
  ∃ (es : List Ev) (A : Option Addr) (c i' : Nat), es.length = len ∧ v = .slice A len c ∧ len ≤ most ∧ Evs3 es ∧ wr.ownsRow w.heap.size 36 5 (.slice A len c) len (evs es) ∧ Tp wr lo hi g n i' ∧ i' ≤ i + 20 * len ∧ w.grownBy wr (some g)
/-- What Events returns. -/
def EvsMade (w : World) (g most : Nat) (e : Ending) (w' : World) : Prop :=
  ∃ (es : List Ev) (A : Option Addr) (c : Nat), e = .returned (.slice A es.length c) ∧ es.length ≤ most ∧ Evs3 es ∧ w'.ownsRow w.heap.size 36 5 (.slice A es.length c) es.length (evs es) ∧ w.grownBy w' (some g)
set_option maxRecDepth 100000 in
set_option maxHeartbeats 1000000 in
theorem events_any (lo hi g n i most : Nat) (w : World) (h : Tp w lo hi g n i) (hi2 : i < 1000000) (hm : most ≤ 1000) :
    Calls Try.prog 11 #[.pointer (some ⟨g, 0, none⟩), .int .i64 most] w (EvsMade w g most) := by
  have R0 := hid (show Ms w lo hi g n i most (.slice none 0 0) 0 w from ⟨[], none, 0, i, rfl, rfl, Nat.zero_le _, fun _ h => (by simp at h), World.ownsRow_nil _ _ _ _, h, by omega, grown_of (Below.refl _ _) _⟩)
  have hgw : g < w.heap.size := by obtain ⟨A, c, _, _, _, _, h1, h2, _⟩ := h; omega
  have hhi : hi ≤ w.heap.size := by obtain ⟨A, c, _, _, _, _, h1, h2, _⟩ := h; omega
  clear h
  go_enter Try.func11, Try.ntmps11
  go_wp2_with fail
  go_loopw [5] (fun v wr => ∃ len : Nat, Ms w lo hi g n i most v len wr) (fun v _ => match v with | .slice _ n _ => most - n | _ => 0)
  case atStart => exact ⟨0, R0.out⟩
  case round =>
    obtain ⟨len, es, A, c, i', hes, rfl, hlen, he3, ho, ht, hi', hg⟩ := hrel
    have HES := hid hes
    have HE3 := hid he3
    have HO := hid ho
    have HT := hid ht
    have HG := hid hg
    clear hes he3 ho ht hg
    have HMO := hid (more_any lo hi g n i' wr HT.out (by omega))
    by_cases hin : i' < n
    · rw [show decide (i' < n) = true by simpa using hin] at HMO
      clear hin
      go_wp2_with fail
      refine HMO.out.mono ?_
      rintro e w2 ⟨rfl, hb2⟩
      have HO2 := hid (own_below HO.out hb2)
      have HT2 := hid (HT.out.below hb2)
      have HG2 := hid (grown_go HG.out (grown_of hb2 (some g)))
      clear hb2
      by_cases hlt : len < most
      · have HEV := hid (event_any lo hi g n i' w2 HT2.out (by omega))
        go_wp2_with fail
        refine HEV.out.mono ?_
        rintro e w3 ⟨p, o, h, a, x, j, rfl, ok, hp, hh, ha, hj1, hj2, ht3, hg3⟩
        have HR3 := hid (show Right (p, o, h, a, x) ∧ p ≤ 3 from ⟨⟨ok, hh, ha⟩, hp⟩)
        have HB3 := hid (((Below.refl w3.heap.size w3).alloc (Nat.le_refl _) (.cells #[.int .i64 (p : Int), .int .i64 (o : Int), .int .u64 (h : Int), .int .u64 (a : Int), .int .i64 (x : Int)] 36)))
        have HT3 := hid (ht3.below HB3.out)
        have HG3 := hid (grown_go (grown_go HG2.out hg3) (grown_of HB3.out (some g)))
        have HO3 := hid (own_below (own_kept (w' := w3) HO2.out fun b hb => hg3.block b (HO2.out.lt b hb).2 (fun e => by have := (HO2.out.lt b hb).1; simp at e; omega)) HB3.out)
        clear ok hp hh ha ht3 hg3
        unfold evv
        go_wp2_with (at_builtin; refine wp_appE3 rfl (.tmp 14) (.tmp 17) rfl w.heap.size A len c es rfl HO3.out (some ⟨w3.heap.size, 0, none⟩) _ 1 (p, o, h, a, x) rfl (Sl.new w3 _ _ _) (len + 1) rfl (by omega) HG3.out.size ?_)
        intro A4 c4 w4 ho4 hg4 hb4
        have HO4 := hid ho4
        have HG4 := hid (show w.grownBy w4 (some g) from ⟨hg4.os.trans HG3.out.os, hg4.tape.trans HG3.out.tape, hg4.output.trans HG3.out.output, Nat.le_trans HG3.out.size hg4.size, fun k hk hne => (hg4.block k (Nat.lt_of_lt_of_le hk HG3.out.size) (fun e => by have := (HO3.out.lt k e.symm).1; omega)).trans (HG3.out.block k hk hne)⟩)
        have HT4 := hid (HT3.out.kept (fun k h1 h2 => hg4.block k (by have := HG3.out.size; omega) (fun e => by have := (HO3.out.lt k e.symm).1; omega)) hg4.size)
        clear ho4 hg4 hb4
        go_wp2_with fail
        go_roundw
        case rel => exact ⟨len + 1, es ++ [(p, o, h, a, x)], A4, c4, j, by simp [HES.out], rfl, by omega, HE3.out.snoc HR3.out, HO4.out, HT4.out, by omega, HG4.out⟩
        case measure => simp; omega
      · go_wp2_with fail
        go_ret
        have := HES.out
        subst this
        exact ⟨es, A, c, rfl, hlen, HE3.out, HO2.out, HG2.out⟩
    · rw [show decide (i' < n) = false by simpa using hin] at HMO
      clear hin
      go_wp2_with fail
      refine HMO.out.mono ?_
      rintro e w2 ⟨rfl, hb2⟩
      have HO2 := hid (own_below HO.out hb2)
      have HG2 := hid (grown_go HG.out (grown_of hb2 (some g)))
      clear hb2
      go_wp2_with fail
      go_ret
      have := HES.out
      subst this
      exact ⟨es, A, c, rfl, hlen, HE3.out, HO2.out, HG2.out⟩
end Go.Proofs.Ytmhmaodnkifcaaa
