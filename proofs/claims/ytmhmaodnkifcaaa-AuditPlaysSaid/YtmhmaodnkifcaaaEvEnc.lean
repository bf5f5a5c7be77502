/-
  event.Encode and the reference's EncodeEvent: the five numbers, one encoding behind the other; nothing for an event that is not right.
-/
import Derived.Test.YtmhmaodnkifcaaaEvChk
import Derived.Test.YtmhmaodnkifcaaaWireP
namespace Go.Proofs.Ytmhmaodnkifcaaa
open Go.RowKit

/-- An event as the model's value. -/
def evv (p o h a x : Int) : Value := .agg #[.int .i64 p, .int .i64 o, .int .u64 h, .int .u64 a, .int .i64 x]
/-- Numbers, one encoding behind the other. -/
def encs (l : List Nat) : List UInt8 := l.flatMap enc
theorem encs_snoc (l : List Nat) (n : Nat) : encs (l ++ [n]) = encs l ++ enc n := by simp [encs]
theorem encs_len (l : List Nat) (h : ∀ n ∈ l, n < 18446744073709551616) : (encs l).length ≤ 10 * l.length := by
  induction l with
  | nil => simp [encs]
  | cons n l ih =>
    have h1 := enc_len10 n (h n (by simp))
    have h2 := ih fun m hm => h m (by simp [hm])
    simp only [encs, List.flatMap_cons, List.length_append, List.length_cons] at *
    omega
/-- The encoding of an event. -/
def encE (p o h a x : Nat) : List UInt8 := encs [p, o, h, a, x]

/-- What Encode returns: bytes of its own and the error 0. -/
def OwnBytes2 (w : World) (l : List UInt8) (n : Nat) (e : Ending) (w' : World) : Prop :=
  ∃ A c, e = .returned (.tuple #[.slice A n c, .int .i64 0]) ∧ w'.ownsRow w.heap.size 5 1 (.slice A n c) n (bys l) ∧ Below w.heap.size w w'

theorem encode_no (p o h a x : Int) (w : World) (no : ¬ EvOK p o x) :
    Calls Try.prog 35 #[evv p o h a x] w fun e w' => e = .returned (.tuple #[.slice none 0 0, .int .i64 1]) ∧ Below w.heap.size w w' := by
  have H := hid (check_no p o x h a (w.alloc (.cells #[.int .i64 p, .int .i64 o, .int .u64 h, .int .u64 a, .int .i64 x] 36)) no)
  clear no
  unfold evv
  go_enter Try.func35, Try.ntmps35
  go_wp2_with fail
  refine H.out.mono ?_
  rintro e w1 ⟨rfl, hb1⟩
  go_wp2
  go_ret2
  exact ⟨rfl, below_go (below_new w _ _) hb1⟩

theorem rencode_no (p o h a x : Int) (w : World) (no : ¬ EvOK p o x) :
    Calls Try.prog 24 #[evv p o h a x] w fun e w' => e = .returned (.tuple #[.slice none 0 0, .int .i64 1]) ∧ Below w.heap.size w w' := by
  have H := hid (rcheck_no p o x h a (w.alloc (.cells #[.int .i64 p, .int .i64 o, .int .u64 h, .int .u64 a, .int .i64 x] 36)) no)
  clear no
  unfold evv
  go_enter Try.func24, Try.ntmps24
  go_wp2_with fail
  refine H.out.mono ?_
  rintro e w1 ⟨rfl, hb1⟩
  go_wp2
  go_ret2
  exact ⟨rfl, below_go (below_new w _ _) hb1⟩

theorem index5_0 (p o h a x : Int) (w : World) : (Instr.index 108 (.agg #[.int .u64 p, .int .u64 o, .int .u64 h, .int .u64 a, .int .u64 x]) (.int .i64 0)).run Try.prog w = .ok (.int .u64 p) w := by kernel_rfl
theorem index5_1 (p o h a x : Int) (w : World) : (Instr.index 108 (.agg #[.int .u64 p, .int .u64 o, .int .u64 h, .int .u64 a, .int .u64 x]) (.int .i64 1)).run Try.prog w = .ok (.int .u64 o) w := by kernel_rfl
theorem index5_2 (p o h a x : Int) (w : World) : (Instr.index 108 (.agg #[.int .u64 p, .int .u64 o, .int .u64 h, .int .u64 a, .int .u64 x]) (.int .i64 2)).run Try.prog w = .ok (.int .u64 h) w := by kernel_rfl
theorem index5_3 (p o h a x : Int) (w : World) : (Instr.index 108 (.agg #[.int .u64 p, .int .u64 o, .int .u64 h, .int .u64 a, .int .u64 x]) (.int .i64 3)).run Try.prog w = .ok (.int .u64 a) w := by kernel_rfl
theorem index5_4 (p o h a x : Int) (w : World) : (Instr.index 108 (.agg #[.int .u64 p, .int .u64 o, .int .u64 h, .int .u64 a, .int .u64 x]) (.int .i64 4)).run Try.prog w = .ok (.int .u64 x) w := by kernel_rfl
theorem index5 (p o h a x k y : Nat) (hk : [p, o, h, a, x][k]? = some y) (w : World) :
    (Instr.index 108 (.agg #[.int .u64 p, .int .u64 o, .int .u64 h, .int .u64 a, .int .u64 x]) (.int .i64 (k : Int))).run Try.prog w = .ok (.int .u64 y) w := by
  rcases k with _ | _ | _ | _ | _ | k
  · simp at hk; subst hk; exact index5_0 _ _ _ _ _ w
  · simp at hk; subst hk; exact index5_1 _ _ _ _ _ w
  · simp at hk; subst hk; exact index5_2 _ _ _ _ _ w
  · simp at hk; subst hk; exact index5_3 _ _ _ _ _ w
  · simp at hk; subst hk; exact index5_4 _ _ _ _ _ w
  · simp at hk

theorem encs_next {ns : List Nat} {k y : Nat} (h : ns[k]? = some y) : encs (ns.take (k + 1)) = encs (ns.take k) ++ enc y := by
  obtain ⟨hk, rfl⟩ := List.getElem?_eq_some_iff.1 h
  rw [List.take_succ_eq_append_getElem hk, encs_snoc]

set_option maxRecDepth 100000 in
set_option maxHeartbeats 1000000 in
theorem encode_yes (p o h a x : Nat) (w : World) (ok : EvOK p o x) (hh : h < 18446744073709551616) (ha : a < 18446744073709551616) :
    Calls Try.prog 35 #[evv p o h a x] w (OwnBytes2 w (encE p o h a x) (encE p o h a x).length) := by
  have H := hid (check_yes p o x h a (w.alloc (.cells #[.int .i64 p, .int .i64 o, .int .u64 h, .int .u64 a, .int .i64 x] 36)) ok)
  have hp : p ≤ 64 := by unfold EvOK at ok; omega
  have ho : o ≤ 33 := by unfold EvOK at ok; omega
  have hx : x ≤ 29 := by unfold EvOK at ok; omega
  have HALL := hid (show ∀ n ∈ [p, o, h, a, x], n < 18446744073709551616 by
    intro n hn
    simp at hn
    omega)
  clear ok hh ha
  unfold evv
  go_enter Try.func35, Try.ntmps35
  go_wp2_with fail
  refine H.out.mono ?_
  rintro e w1 ⟨rfl, hb1⟩
  have HB1 := hid (below_go (below_new w _ _) hb1)
  have f0 : w1.cell? ⟨w.heap.size, 0, none⟩ = some (.int .i64 (p : Int)) := by rw [hb1.cell (p := ⟨w.heap.size, 0, none⟩) (by simp)]; simp [go_sem]
  have f1 : w1.cell? ⟨w.heap.size, 1, none⟩ = some (.int .i64 (o : Int)) := by rw [hb1.cell (p := ⟨w.heap.size, 1, none⟩) (by simp)]; simp [go_sem]
  have f2 : w1.cell? ⟨w.heap.size, 2, none⟩ = some (.int .u64 (h : Int)) := by rw [hb1.cell (p := ⟨w.heap.size, 2, none⟩) (by simp)]; simp [go_sem]
  have f3 : w1.cell? ⟨w.heap.size, 3, none⟩ = some (.int .u64 (a : Int)) := by rw [hb1.cell (p := ⟨w.heap.size, 3, none⟩) (by simp)]; simp [go_sem]
  have f4 : w1.cell? ⟨w.heap.size, 4, none⟩ = some (.int .i64 (x : Int)) := by rw [hb1.cell (p := ⟨w.heap.size, 4, none⟩) (by simp)]; simp [go_sem]
  clear hb1 H
  obtain ⟨ns, hns⟩ : ∃ ns, ns = [p, o, h, a, x] := ⟨_, rfl⟩
  have HI := hid (show ∀ k y : Nat, ns[k]? = some y → ∀ w, (Instr.index 108 (.agg #[.int .u64 p, .int .u64 o, .int .u64 h, .int .u64 a, .int .u64 x]) (.int .i64 (k : Int))).run Try.prog w = .ok (.int .u64 y) w by
    rw [hns]; exact fun k y hk w => index5 p o h a x k y hk w)
  have HLEN := hid (show ns.length = 5 by rw [hns]; rfl)
  have HE := hid (show encE p o h a x = encs ns by rw [hns]; rfl)
  rw [← hns] at HALL
  clear hns
  go_wp2_with fail
  clear f0 f1 f2 f3 f4
  go_loopw [5, 27] (fun v i wr => ∃ (k m : Nat) (A : Option Addr) (c : Nat), k ≤ 5 ∧ i = .int .i64 k ∧ v = .slice A m c ∧ m = (encs (ns.take k)).length ∧ wr.ownsRow w.heap.size 5 1 (.slice A m c) m (bys (encs (ns.take k))) ∧ Below w.heap.size w wr) (fun _ i _ => 5 - (intOf i).toNat)
  case atStart => exact ⟨0, 0, none, 0, by omega, rfl, rfl, rfl, World.ownsRow_nil _ _ _ _, HB1.out⟩
  case round =>
    obtain ⟨k, m, A, c, hk, rfl, rfl, hm, hown, hb⟩ := hrel
    have hm50 : m ≤ 50 := by
      have h1 := encs_len (ns.take k) fun n hn => HALL.out n (List.mem_of_mem_take hn)
      have h2 : (ns.take k).length ≤ k := List.length_take_le _ _
      omega
    have HM := hid hm
    have HO := hid hown
    have HB := hid hb
    clear hm hown hb
    by_cases hlt : k < 5
    · obtain ⟨y, hy⟩ : ∃ y, ns[k]? = some y := ⟨_, List.getElem?_eq_getElem (by rw [HLEN.out]; omega)⟩
      have hidx := HI.out k y hy
      have HY := hid (encs_next hy)
      have hylt := HALL.out y (List.mem_of_getElem? hy)
      have HP := hid (put_any A m c _ y (encs (ns.take k)) wr HM.out.symm (Sl.of_own HO.out) (Nat.le_refl _) (by omega) hylt)
      clear hy hylt
      go_wp2_with fail
      refine HP.out.mono ?_
      rintro e w2 ⟨A2, c2, rfl, ho2, hb2⟩
      have HB2 := hid (below_go HB.out hb2)
      have HO2 := hid (own_base ho2 HB.out.size)
      clear ho2 hb2 hidx
      go_wp2
      go_roundw
      case rel => exact ⟨k + 1, _, A2, c2, by omega, by go_num, rfl, by rw [HY.out, List.length_append, ← HM.out], by rw [HY.out]; exact HO2.out, HB2.out⟩
      case measure => simp [intOf]; omega
    · obtain rfl : k = 5 := by omega
      have e1 : encs (ns.take 5) = encE p o h a x := by rw [List.take_of_length_le (by rw [HLEN.out]; omega), HE.out]
      have HO2 := HO.out
      rw [e1] at HO2
      have HM2 := HM.out
      rw [e1] at HM2
      have HO3 := hid HO2
      have HM3 := hid HM2
      clear HO2 HM2 e1
      go_wp2
      go_ret2
      rw [← HM3.out]
      exact ⟨A, c, rfl, HO3.out, HB.out⟩

set_option maxHeartbeats 1000000 in
theorem rencode_yes (p o h a x : Nat) (w : World) (ok : EvOK p o x) (hh : h < 18446744073709551616) (ha : a < 18446744073709551616) :
    Calls Try.prog 24 #[evv p o h a x] w (OwnBytes2 w (encE p o h a x) (encE p o h a x).length) := by
  have H := hid (rcheck_yes p o x h a (w.alloc (.cells #[.int .i64 p, .int .i64 o, .int .u64 h, .int .u64 a, .int .i64 x] 36)) ok)
  have hp : p ≤ 64 := by unfold EvOK at ok; omega
  have ho : o ≤ 33 := by unfold EvOK at ok; omega
  have hx : x ≤ 29 := by unfold EvOK at ok; omega
  have HH := hid hh
  have HA := hid ha
  clear ok hh ha
  unfold evv
  go_enter Try.func24, Try.ntmps24
  go_wp2_with fail
  refine H.out.mono ?_
  rintro e w1 ⟨rfl, hb1⟩
  have HB1 := hid (below_go (below_new w _ _) hb1)
  have g0 : w1.cell? ⟨w.heap.size, 0, none⟩ = some (.int .i64 (p : Int)) := by rw [hb1.cell (p := ⟨w.heap.size, 0, none⟩) (by simp)]; simp [go_sem]
  have g1 : w1.cell? ⟨w.heap.size, 1, none⟩ = some (.int .i64 (o : Int)) := by rw [hb1.cell (p := ⟨w.heap.size, 1, none⟩) (by simp)]; simp [go_sem]
  have g2 : w1.cell? ⟨w.heap.size, 2, none⟩ = some (.int .u64 (h : Int)) := by rw [hb1.cell (p := ⟨w.heap.size, 2, none⟩) (by simp)]; simp [go_sem]
  have g3 : w1.cell? ⟨w.heap.size, 3, none⟩ = some (.int .u64 (a : Int)) := by rw [hb1.cell (p := ⟨w.heap.size, 3, none⟩) (by simp)]; simp [go_sem]
  have g4 : w1.cell? ⟨w.heap.size, 4, none⟩ = some (.int .i64 (x : Int)) := by rw [hb1.cell (p := ⟨w.heap.size, 4, none⟩) (by simp)]; simp [go_sem]
  have hz1 : w.heap.size < w1.heap.size := by have := hb1.size; simp at this; omega
  have G := hid (And.intro g0 (And.intro g1 (And.intro g2 (And.intro g3 g4))))
  clear hb1 H g1 g2 g3 g4
  have hl1 := enc_len10 p (by omega)
  have hl2 := enc_len10 o (by omega)
  have hl3 := enc_len10 h HH.out
  have hl4 := enc_len10 a HA.out
  have HL := hid (And.intro hl1 (And.intro hl2 (And.intro hl3 hl4)))
  clear hl1 hl2 hl3 hl4
  go_wp2_with fail
  refine (rput_any none 0 0 0 p [] _ rfl (.inl rfl) (Nat.zero_le _) (by omega) (by omega)).mono ?_
  rintro e w2 ⟨A2, c2, rfl, ho2, hb2⟩
  simp only [List.nil_append, Nat.zero_add] at ho2 ⊢
  have HB2 := hid (below_go HB1.out hb2)
  have k1 := (hb2.cell (p := ⟨w.heap.size, 1, none⟩) hz1).trans G.out.2.1
  have k2 := hid ((hb2.cell (p := ⟨w.heap.size, 2, none⟩) hz1).trans G.out.2.2.1)
  have k3 := hid ((hb2.cell (p := ⟨w.heap.size, 3, none⟩) hz1).trans G.out.2.2.2.1)
  have k4 := hid ((hb2.cell (p := ⟨w.heap.size, 4, none⟩) hz1).trans G.out.2.2.2.2)
  have hz2 := Nat.lt_of_lt_of_le hz1 hb2.size
  have HO2 := hid ho2
  clear hb2 ho2 g0
  go_wp2_with fail
  refine (rput_any A2 _ c2 _ o (enc p) w2 rfl (Sl.of_own HO2.out) (Nat.le_refl _) (by have := HL.out.1; omega) (by omega)).mono ?_
  rintro e w3 ⟨A3, c3, rfl, ho3, hb3⟩
  have HB3 := hid (below_go HB2.out hb3)
  have l2 := (hb3.cell (p := ⟨w.heap.size, 2, none⟩) hz2).trans k2.out
  have l3 := hid ((hb3.cell (p := ⟨w.heap.size, 3, none⟩) hz2).trans k3.out)
  have l4 := hid ((hb3.cell (p := ⟨w.heap.size, 4, none⟩) hz2).trans k4.out)
  have hz3 := Nat.lt_of_lt_of_le hz2 hb3.size
  have HO3 := hid ho3
  clear hb3 ho3 k1
  go_wp2_with fail
  refine (rput_any A3 _ c3 _ h (enc p ++ enc o) w3 (by simp) (Sl.of_own HO3.out) (Nat.le_refl _) (by have := HL.out.1; have := HL.out.2.1; omega) HH.out).mono ?_
  rintro e w4 ⟨A4, c4, rfl, ho4, hb4⟩
  have HB4 := hid (below_go HB3.out hb4)
  have m3 := (hb4.cell (p := ⟨w.heap.size, 3, none⟩) hz3).trans l3.out
  have m4 := hid ((hb4.cell (p := ⟨w.heap.size, 4, none⟩) hz3).trans l4.out)
  have hz4 := Nat.lt_of_lt_of_le hz3 hb4.size
  have HO4 := hid ho4
  clear hb4 ho4 l2
  go_wp2_with fail
  refine (rput_any A4 _ c4 _ a (enc p ++ enc o ++ enc h) w4 (by simp only [List.length_append]) (Sl.of_own HO4.out) (Nat.le_refl _) (by have := HL.out.1; have := HL.out.2.1; have := HL.out.2.2.1; omega) HA.out).mono ?_
  rintro e w5 ⟨A5, c5, rfl, ho5, hb5⟩
  have HB5 := hid (below_go HB4.out hb5)
  have n4 := (hb5.cell (p := ⟨w.heap.size, 4, none⟩) hz4).trans m4.out
  have HO5 := hid ho5
  clear hb5 ho5 m3
  go_wp2_with fail
  refine (rput_any A5 _ c5 _ x (enc p ++ enc o ++ enc h ++ enc a) w5 (by simp only [List.length_append]) (Sl.of_own HO5.out) (Nat.le_refl _) (by have := HL.out.1; have := HL.out.2.1; have := HL.out.2.2.1; have := HL.out.2.2.2; omega) (by omega)).mono ?_
  rintro e w6 ⟨A6, c6, rfl, ho6, hb6⟩
  have HB6 := hid (below_go HB5.out hb6)
  have HO6 := hid (own_base ho6 HB5.out.size)
  clear hb6 ho6 n4
  go_wp2
  go_ret2
  have e1 : encE p o h a x = enc p ++ enc o ++ enc h ++ enc a ++ enc x := by simp [encE, encs]
  have e2 : (encE p o h a x).length = (enc p).length + (enc o).length + (enc h).length + (enc a).length + (enc x).length := by rw [e1]; simp; omega
  rw [e2, e1]
  exact ⟨A6, c6, rfl, HO6.out, HB6.out⟩
end Go.Proofs.Ytmhmaodnkifcaaa
