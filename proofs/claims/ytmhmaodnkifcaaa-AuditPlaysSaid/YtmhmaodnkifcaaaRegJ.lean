/-
  A region that draws its order and ends in a store: the condition that its loads lean on is kept up to that store, and no further. No program is named here.
-/
import Derived.Deep.RegionHeld3
namespace Go.Proofs.Ytmhmaodnkifcaaa
open Go

section
variable {P : Program} {ops : Array Oper} {Q : Exit → Act → World → Prop} {md : Region.Mode} {S : World → Prop} {J : Nat}

/-- Whatever order is picked from here on; S holds behind each operation but the operation J. -/
def AnyJ (P : Program) (md : Region.Mode) (ops : Array Oper) (Q : Exit → Act → World → Prop) (S : World → Prop) (J : Nat) : Nat → Array Bool → Act → World → Prop
  | 0, listed, a, w => Region.ready md ops listed = [] ∧ Q .normal a w
  | fuel + 1, listed, a, w =>
    (Region.ready md ops listed = [] → Q .normal a w) ∧
    ∀ i ∈ Region.ready md ops listed, wpOp P ops Q i (fun a' w' => (i = J ∨ S w') ∧ AnyJ P md ops Q S J fuel (listed.setIfInBounds i true) a' w') a w

theorem AnyJ.plain : ∀ (fuel : Nat) (listed : Array Bool) (a : Act) (w : World), AnyJ P md ops Q S J fuel listed a w → wpAny P md ops Q fuel listed a w
  | 0, _, _, _, h => h
  | fuel + 1, _, _, _, h => ⟨h.1, fun i hi => wpOp_mono (fun a' w' h' => AnyJ.plain fuel _ a' w' h'.2) (h.2 i hi)⟩

/-- The numbers T wait for i, or for one of T; J is among them; none has come up. -/
def waitB (md : Region.Mode) (ops : Array Oper) (listed : Array Bool) (i J : Nat) (T : List Nat) : Bool :=
  T.contains J && T.all fun t => !listed.getD t true && ((ops[t]?).map fun o => o.after.any fun e => Region.binds md e && (e.on == i || T.contains e.on)).getD false
def Waits (md : Region.Mode) (ops : Array Oper) (listed : Array Bool) (i J : Nat) (T : List Nat) : Prop :=
  J ∈ T ∧ ∀ t ∈ T, listed.getD t true = false ∧ ∃ o, ops[t]? = some o ∧ ∃ e ∈ o.after, Region.binds md e = true ∧ (e.on = i ∨ e.on ∈ T)
theorem waits_of {listed : Array Bool} {i J : Nat} {T : List Nat} (h : waitB md ops listed i J T = true) : Waits md ops listed i J T := by
  unfold waitB at h
  simp only [Bool.and_eq_true, List.all_eq_true, List.contains_iff_mem] at h
  refine ⟨h.1, fun t ht => ?_⟩
  obtain ⟨h1, h2⟩ := h.2 t ht
  refine ⟨by simpa using h1, ?_⟩
  cases ho : ops[t]? with
  | none => rw [ho] at h2; simp at h2
  | some o =>
    rw [ho] at h2
    simp only [Option.map_some, Option.getD_some, Array.any_eq_true] at h2
    obtain ⟨k, hk, h3⟩ := h2
    simp only [Bool.and_eq_true, Bool.or_eq_true, beq_iff_eq, List.contains_iff_mem] at h3
    exact ⟨o, rfl, o.after[k], Array.getElem_mem hk, h3.1, h3.2⟩
theorem listed_off {listed : Array Bool} {k : Nat} (h : listed.getD k true = false) : listed.getD k false = false := by
  rcases Nat.lt_or_ge k listed.size with h' | h'
  · simp [h'] at h ⊢; exact h
  · simp [Array.getElem?_eq_none h'] at h
theorem Waits.not_ready {listed : Array Bool} {i J : Nat} {T : List Nat} (h : Waits md ops listed i J T) (hi : listed.getD i true = false) {j : Nat} (hj : j ∈ Region.ready md ops listed) : j ∉ T := by
  intro hT
  obtain ⟨_, o, ho, e, he, hb, hon⟩ := h.2 j hT
  obtain ⟨_, o', ho', hall⟩ := mem_ready.1 hj
  rw [ho] at ho'
  injection ho' with ho'
  subst ho'
  have h1 := hall e he hb
  have h0 : listed.getD e.on true = false := by
    rcases hon with hon | hon
    · rw [hon]; exact hi
    · exact (h.2 _ hon).1
  rw [listed_off h0] at h1
  cases h1
theorem Waits.next {listed : Array Bool} {i J : Nat} {T : List Nat} (h : Waits md ops listed i J T) {j : Nat} (hj : j ∉ T) : Waits md ops (listed.setIfInBounds j true) i J T :=
  ⟨h.1, fun t ht => ⟨by rw [getD_set_ne true (fun e => hj (by rw [e]; exact ht))]; exact (h.2 t ht).1, (h.2 t ht).2⟩⟩

theorem AnyJ.first {T : List Nat} {i : Nat} {oi : Oper} {v : Value} (hi : ops[i]? = some oi) (hsel : ∀ (j : Nat) (o : Oper) cs b, ops[j]? = some o → o.op ≠ .select cs b)
    (hQ : ∀ c a w, Q (.panic c) (a.put oi.dst v) w → Q (.panic c) a w) :
    ∀ (fuel : Nat) (listed : Array Bool) (a : Act) (w : World),
      (∀ j oj, ops[j]? = some oj → j ≠ i → listed.getD j true = false → (∀ e ∈ oj.after, Region.binds md e = true → e.on ≠ i) → oi.apart ops oj = true) →
      i ∈ Region.ready md ops listed → Waits md ops listed i J T → YieldsIf P ops S oi v a → S w →
      AnyJ P md ops Q S J fuel (listed.setIfInBounds i true) (a.put oi.dst v) w → AnyJ P md ops Q S J (fuel + 1) listed a w := by
  intro fuel
  induction fuel with
  | zero =>
    intro listed a w _ hr _ hy hS H
    refine ⟨fun h => (by rw [h] at hr; cases hr), fun j hj => ?_⟩
    by_cases hji : j = i
    · subst hji; exact hy.wpOp hi hS ⟨.inr hS, H⟩
    · have := ready_mono hj hji
      rw [H.1] at this
      cases this
  | succ fuel ih =>
    intro listed a w hfree hr hT hy hS H
    refine ⟨fun h => (by rw [h] at hr; cases hr), fun j hj => ?_⟩
    by_cases hji : j = i
    · subst hji; exact hy.wpOp hi hS ⟨.inr hS, H⟩
    · have hjT := hT.not_ready (mem_ready.1 hr).1 hj
      have hjJ : j ≠ J := fun e => hjT (by rw [e]; exact hT.1)
      have h1 := H.2 j (ready_mono hj hji)
      obtain ⟨hjun, oj, hoj, hall⟩ := mem_ready.1 hj
      have hnot : ∀ e ∈ oj.after, Region.binds md e = true → e.on ≠ i := fun e he hb heq => by
        have h1 := hall e he hb
        rw [heq, listed_off (mem_ready.1 hr).1] at h1
        cases h1
      have h2 := wpOp_putIf hoj (hfree j oj hoj hji hjun hnot) (fun cs b => hsel i oi cs b hi) (fun cs b => hsel j oj cs b hoj) hQ hy h1
      have hfree' : ∀ k ok, ops[k]? = some ok → k ≠ i → (listed.setIfInBounds j true).getD k true = false →
          (∀ e ∈ ok.after, Region.binds md e = true → e.on ≠ i) → oi.apart ops ok = true := fun k ok hk hki hun hno => by
        refine hfree k ok hk hki ?_ hno
        by_cases hjk : j = k
        · subst hjk; exact hjun
        · rw [getD_set_ne true hjk] at hun; exact hun
      refine wpOp_mono (fun a' w' h3 => ?_) h2
      have hS' : S w' := h3.2.1.resolve_left hjJ
      refine ⟨.inr hS', ih (listed.setIfInBounds j true) a' w' hfree' (ready_mono hr (Ne.symm hji)) (hT.next hjT) h3.1 hS' ?_⟩
      rw [Array.setIfInBounds_comm _ _ hji]
      exact h3.2.2

theorem AnyJ.take {T : List Nat} {i : Nat} {oi : Oper} {v : Value} {fuel : Nat} {listed : Array Bool} {a : Act} {w : World} (hi : ops[i]? = some oi)
    (hs : Region.noSelect ops = true) (hf : Region.free md ops listed i = true) (hr : (Region.ready md ops listed).contains i = true) (hT : waitB md ops listed i J T = true)
    (hQ : ∀ c a w, Q (.panic c) (a.put oi.dst v) w → Q (.panic c) a w) (hy : YieldsIf P ops S oi v a) (hS : S w)
    (h : AnyJ P md ops Q S J fuel (listed.setIfInBounds i true) (a.put oi.dst v) w) : AnyJ P md ops Q S J (fuel + 1) listed a w :=
  AnyJ.first hi (Region.noSelect_spec hs) hQ fuel listed a w (Region.free_spec hi hf) (by simpa using hr) (waits_of hT) hy hS h

/-- One operation alone may come up, and S is shown behind it. -/
theorem AnyJ.one {i : Nat} {o : Oper} {fuel : Nat} {listed : Array Bool} {a : Act} {w : World} (hr : Region.ready md ops listed = [i]) (ho : ops[i]? = some o)
    (h : ∀ K' : Act → World → Prop, Shut (∀ a w, S w → (S w → AnyJ P md ops Q S J fuel (listed.setIfInBounds i true) a w) → K' a w) → if Region.wanted o (yielded ops a.tmps) = true then Oper.wp P o a w K' Q else K' (a.put o.dst undef) w) :
    AnyJ P md ops Q S J (fuel + 1) listed a w :=
  ⟨fun h0 => (by rw [h0] at hr; cases hr), fun j hj => by
    rw [hr] at hj
    simp at hj
    subst hj
    exact wpOp_step ho (fun K' hK => h K' (fun a w hS hW => hK a w ⟨.inr hS, hW hS⟩))⟩
/-- The store comes up, alone. -/
theorem AnyJ.last {o : Oper} {fuel : Nat} {listed : Array Bool} {a : Act} {w : World} (hr : Region.ready md ops listed = [J]) (ho : ops[J]? = some o)
    (h : ∀ K' : Act → World → Prop, Shut (∀ a w, AnyJ P md ops Q S J fuel (listed.setIfInBounds J true) a w → K' a w) → if Region.wanted o (yielded ops a.tmps) = true then Oper.wp P o a w K' Q else K' (a.put o.dst undef) w) :
    AnyJ P md ops Q S J (fuel + 1) listed a w :=
  ⟨fun h0 => (by rw [h0] at hr; cases hr), fun j hj => by
    rw [hr] at hj
    simp at hj
    subst hj
    exact wpOp_step ho (fun K' hK => h K' (fun a w hW => hK a w ⟨.inl rfl, hW⟩))⟩

theorem AnyJ.done {listed : Array Bool} {a : Act} {w : World} (hr : Region.ready md ops listed = []) (h : Q .normal a w) : ∀ fuel, AnyJ P md ops Q S J fuel listed a w
  | 0 => ⟨hr, h⟩
  | _ + 1 => ⟨fun _ => h, by rw [hr]; simp⟩

theorem AnyJ.start {id : Nat} {a : Act} {w : World} (hm : P.follows .mixedOrders = true) (hS : S w.drew)
    (h : S w.drew → AnyJ P .any ops Q S J ops.size (Array.replicate ops.size false) a w.drew) : (Code.region id ops true).wp P Q a w :=
  wp_region_any hm (AnyJ.plain _ _ _ _ (h hS))
end
end Go.Proofs.Ytmhmaodnkifcaaa
