/-
  A region that draws its order, within a round of a loop over an iterator: it goes as anywhere. No program is named here.
-/
import Derived.OrdersIn
import Derived.RangeFuncCalls
import Derived.Deep.RegionHeld3
namespace Go.Proofs.Ytmhmaodnkifcaaa
open Go

/-- Only a normal end. -/
def Only (K : Act → World → Prop) : Exit → Act → World → Prop
  | .normal, a, w => K a w
  | _, _, _ => False
/-- No operation is a defer statement. -/
def noDefer (ops : Array Oper) : Bool := ops.all fun o => match o.op with | .defer _ => false | _ => true
theorem noDefer_spec {ops : Array Oper} (h : noDefer ops = true) {i : Nat} {o : Oper} (ho : ops[i]? = some o) : ∀ c, o.op ≠ .defer c := by
  intro c hc
  unfold noDefer at h
  rw [Array.all_eq_true] at h
  obtain ⟨hi, e⟩ := Array.getElem?_eq_some_iff.1 ho
  have := h i hi
  rw [e, hc] at this
  cases this
theorem oper_round {P : Program} {l n : Nat} {o : Oper} {a : Act} {w : World} {K K' : Act → World → Prop} (hd : ∀ c, o.op ≠ .defer c) (h : o.wp P a w K (Only K')) : o.wpIn (Fence.wide.inRound l) n P a w K (Only K') := by
  unfold Oper.wp at h
  unfold Oper.wpIn
  refine ⟨fun _ _ => trivial, ?_⟩
  rw [Oper.semAt_eq _ _ _ hd]
  generalize (execOp a.eval o).run P w = r at *
  cases r with
  | ok x w' =>
    cases x <;> simp only [Oper.upon, Oper.uponIn] at h ⊢
    case value => exact h
    case skip => exact h
    case defer => exact h
    case enter f args =>
      refine ⟨fun e => (by cases e), CallsIn.inRound l (callsIn_wide.2 (Calls.mono h fun e w'' he => ?_))⟩
      cases e <;> first | exact he | (obtain ⟨_, _, he⟩ := he; exact he.elim)
    case row row args =>
      refine ⟨fun e => (by cases e), fun c cs _ => ?_⟩
      obtain ⟨v, w'', r, s⟩ := h c cs
      exact ⟨v, w'', r, stepsIn_wide.2 s⟩
  | halt x w' => cases x <;> simp only [Oper.upon, Oper.uponIn] at h ⊢; exact h
theorem any_round {P : Program} {l n : Nat} {md : Region.Mode} {ops : Array Oper} {K : Act → World → Prop} (hd : noDefer ops = true) : ∀ (fuel : Nat) (listed : Array Bool) (a : Act) (w : World), wpAny P md ops (Only K) fuel listed a w → wpAnyIn (Fence.wide.inRound l) n P md ops (Only K) fuel listed a w
  | 0, _, _, _, h => h
  | fuel + 1, listed, a, w, h => by
    refine ⟨h.1, fun i hi => ?_⟩
    have h1 := h.2 i hi
    unfold wpOp at h1
    unfold wpOpIn
    cases ho : ops[i]? with
    | none =>
      simp only [ho] at h1
      exact any_round hd fuel _ _ _ h1
    | some o =>
      simp only [ho] at h1 ⊢
      by_cases hw : Region.wanted o (yielded ops a.tmps) = true
      · rw [if_pos hw] at h1 ⊢
        rcases h1 with h1 | ⟨_, h1⟩
        · exact Oper.wpIn_mono (fun a' w' h' => any_round hd fuel _ a' w' h') (oper_round (noDefer_spec hd ho) h1)
        · obtain ⟨_, _, h1⟩ := h1; exact h1.elim
      · rw [if_neg hw] at h1 ⊢
        exact ⟨fun _ _ => trivial, any_round hd fuel _ _ _ h1⟩
theorem region_round {P : Program} {l n id : Nat} {ops : Array Oper} {Q : Exit → Act → World → Prop} {S : World → Prop} {a : Act} {w : World} (hm : P.follows .mixedOrders = true) (hd : noDefer ops = true) (hS : S w.drew)
    (h : S w.drew → wpAnyH P .any ops (Only fun a' w' => Q .normal a' w') S ops.size (Array.replicate ops.size false) a w.drew) : (Code.region id ops true).wpIn (Fence.wide.inRound l) n P Q a w :=
  wpIn_mono (wpIn_region_any hm (any_round hd _ _ _ _ (wpAny_of_held _ _ _ _ (h hS)))) fun e a w h => by
    cases e <;> first | exact h | exact (h : False).elim
end Go.Proofs.Ytmhmaodnkifcaaa
