/-
  The digest as plain arithmetic: one step, a string of bytes, the eight bytes of a number, a chain. No program is named here.
-/
import Derived.Laws.Bits64
namespace Go.Proofs.Ytmhmaodnkifcaaa

def fPrime : Nat := 1099511628211
def fMod : Nat := 18446744073709551616
def fStart : Nat := 14695981039346656037
/-- One byte. -/
def fstep (d c : Nat) : Nat := (d ^^^ c) * fPrime % fMod
/-- A string of bytes. -/
def fnv (d : Nat) (l : List UInt8) : Nat := l.foldl (fun d c => fstep d c.toNat) d
/-- The k lowest bytes of a number, the least significant one first. -/
def leb (n k : Nat) : List UInt8 := (List.range k).map fun i => UInt8.ofNat (n / 2 ^ (8 * i))
def chain (d : Nat) (l : List UInt8) : Nat := fnv (fnv fStart (leb d 8)) l
/-- A digest for each record. -/
def digs (d : Nat) : List (List UInt8) → List Nat
  | [] => []
  | r :: rs => chain d r :: digs (chain d r) rs

theorem fstep_lt (d c : Nat) : fstep d c < 18446744073709551616 := Nat.mod_lt _ (by decide)
theorem fnv_nil (d : Nat) : fnv d [] = d := by unfold fnv; rw [List.foldl_nil]
theorem fnv_cons (d : Nat) (c : UInt8) (l : List UInt8) : fnv d (c :: l) = fnv (fstep d c.toNat) l := by unfold fnv; rw [List.foldl_cons]
theorem fnv_lt (d : Nat) (l : List UInt8) (h : d < 18446744073709551616) : fnv d l < 18446744073709551616 := by
  induction l generalizing d with
  | nil => rw [fnv_nil]; exact h
  | cons c l ih => rw [fnv_cons]; exact ih _ (fstep_lt _ _)
theorem fStart_lt : fStart < 18446744073709551616 := by decide
theorem chain_lt (d : Nat) (l : List UInt8) : chain d l < 18446744073709551616 := fnv_lt _ _ (fnv_lt _ _ fStart_lt)
theorem fnv_append (d : Nat) (a b : List UInt8) : fnv d (a ++ b) = fnv (fnv d a) b := by unfold fnv; rw [List.foldl_append]
theorem fnv_snoc (d : Nat) (a : List UInt8) (c : UInt8) : fnv d (a ++ [c]) = fstep (fnv d a) c.toNat := by rw [fnv_append, fnv_cons, fnv_nil]
theorem fnv_take_succ (d : Nat) (l : List UInt8) (k : Nat) (h : k < l.length) : fnv d (l.take (k + 1)) = fstep (fnv d (l.take k)) l[k].toNat := by
  rw [List.take_succ_eq_append_getElem h, fnv_snoc]
theorem fnv_lt' (d : Nat) (l : List UInt8) (h : d < 18446744073709551616) : (fnv d l : Int) ≤ 18446744073709551615 := by
  have := fnv_lt d l h; omega

/-- What the walk shows for one byte. -/
theorem walk_step (d : Nat) (c : UInt8) (h : d < 18446744073709551616) : IntKind.u64.wrap (bits .xor .u64 (d : Int) (c.toNat : Int) * 1099511628211) = (fstep d c.toNat : Int) := by
  have := c.toNat_lt
  rw [bits_xor_u64_nat d c.toNat h (by omega), IntKind.wrap_u64]
  show _ = (((d ^^^ c.toNat) * 1099511628211 % 18446744073709551616 : Nat) : Int)
  omega

/-! ### One byte changed changes the digest -/
def fInv : Nat := 14886173955864302971
theorem inv_ok : fPrime * fInv % fMod = 1 := by decide
theorem mul_back (x : Nat) (h : x < fMod) : x * fPrime % fMod * fInv % fMod = x := by
  rw [Nat.mod_mul_mod, Nat.mul_assoc, Nat.mul_mod, inv_ok, Nat.mul_one, Nat.mod_mod, Nat.mod_eq_of_lt h]
theorem mul_inj {x y : Nat} (hx : x < fMod) (hy : y < fMod) (h : x * fPrime % fMod = y * fPrime % fMod) : x = y := by
  have e := congrArg (fun z => z * fInv % fMod) h
  simp only [mul_back x hx, mul_back y hy] at e
  exact e
theorem xor_lt {a b : Nat} (ha : a < fMod) (hb : b < fMod) : a ^^^ b < fMod := by
  have : a ^^^ b < 2 ^ 64 := Nat.xor_lt_two_pow (show a < 2 ^ 64 from ha) (show b < 2 ^ 64 from hb)
  exact this
theorem xor_same {a b c : Nat} (h : a ^^^ c = b ^^^ c) : a = b := by
  have := congrArg (· ^^^ c) h
  simpa [Nat.xor_assoc] using this
theorem fstep_inj {a b c : Nat} (ha : a < fMod) (hb : b < fMod) (hc : c < 256) (h : fstep a c = fstep b c) : a = b := by
  have hc' : c < fMod := by unfold fMod; omega
  exact xor_same (mul_inj (xor_lt ha hc') (xor_lt hb hc') h)
theorem fstep_byte {a x y : Nat} (ha : a < fMod) (hx : x < 256) (hy : y < 256) (h : fstep a x = fstep a y) : x = y := by
  have hx' : x < fMod := by unfold fMod; omega
  have hy' : y < fMod := by unfold fMod; omega
  have := mul_inj (xor_lt ha hx') (xor_lt ha hy') h
  rw [Nat.xor_comm a x, Nat.xor_comm a y] at this
  exact xor_same this
theorem fnv_inj {a b : Nat} (ha : a < fMod) (hb : b < fMod) (l : List UInt8) (h : fnv a l = fnv b l) : a = b := by
  induction l generalizing a b with
  | nil => rw [fnv_nil, fnv_nil] at h; exact h
  | cons c l ih => rw [fnv_cons, fnv_cons] at h; exact fstep_inj ha hb c.toNat_lt (ih (fstep_lt _ _) (fstep_lt _ _) h)
/-- Two strings of bytes that differ in one byte. -/
theorem fnv_set (d : Nat) (hd : d < fMod) (l : List UInt8) (i : Nat) (x : UInt8) (hi : i < l.length) (hx : l[i] ≠ x) : fnv d l ≠ fnv d (l.set i x) := by
  intro h
  have e1 : l = l.take i ++ l[i] :: l.drop (i + 1) := by rw [List.getElem_cons_drop, List.take_append_drop]
  have e2 : l.set i x = l.take i ++ x :: l.drop (i + 1) := by rw [List.set_eq_take_append_cons_drop, if_pos hi]
  have h1 : fnv d l = fnv (fstep (fnv d (l.take i)) l[i].toNat) (l.drop (i + 1)) := by
    conv => lhs; rw [e1]
    rw [fnv_append, fnv_cons]
  have h2 : fnv d (l.set i x) = fnv (fstep (fnv d (l.take i)) x.toNat) (l.drop (i + 1)) := by rw [e2, fnv_append, fnv_cons]
  rw [h1, h2] at h
  have h3 := fstep_byte (fnv_lt d _ hd) l[i].toNat_lt x.toNat_lt (fnv_inj (fstep_lt _ _) (fstep_lt _ _) _ h)
  exact hx (UInt8.toNat_inj.1 h3)

/-! ### The lists of digests -/
theorem digs_length (d : Nat) (ls : List (List UInt8)) : (digs d ls).length = ls.length := by
  induction ls generalizing d with
  | nil => rfl
  | cons r rs ih => simp [digs, ih]
/-- The digest behind the records. -/
def lastd (d : Nat) (ls : List (List UInt8)) : Nat := ls.foldl chain d
theorem digs_append (d : Nat) (a b : List (List UInt8)) : digs d (a ++ b) = digs d a ++ digs (lastd d a) b := by
  induction a generalizing d with
  | nil => simp [digs, lastd]
  | cons r rs ih => simp [digs, lastd, ih]
theorem digs_snoc (d : Nat) (a : List (List UInt8)) (r : List UInt8) : digs d (a ++ [r]) = digs d a ++ [chain (lastd d a) r] := by rw [digs_append]; simp only [digs]
theorem lastd_snoc (d : Nat) (a : List (List UInt8)) (r : List UInt8) : lastd d (a ++ [r]) = chain (lastd d a) r := by simp [lastd]
theorem lastd_nil (d : Nat) : lastd d [] = d := by unfold lastd; rw [List.foldl_nil]
theorem lastd_cons (d : Nat) (r : List UInt8) (ls : List (List UInt8)) : lastd d (r :: ls) = lastd (chain d r) ls := by unfold lastd; rw [List.foldl_cons]
theorem lastd_lt (d : Nat) (ls : List (List UInt8)) (h : d < 18446744073709551616) : lastd d ls < 18446744073709551616 := by
  induction ls generalizing d with
  | nil => rw [lastd_nil]; exact h
  | cons r rs ih => rw [lastd_cons]; exact ih _ (chain_lt _ _)
theorem digs_take (d : Nat) (a : List (List UInt8)) (n : Nat) : digs d (a.take n) = (digs d a).take n := by
  induction a generalizing d n with
  | nil => simp [digs]
  | cons r rs ih => cases n <;> simp [digs, ih]
theorem digs_lt (d : Nat) (ls : List (List UInt8)) : ∀ x ∈ digs d ls, x < 18446744073709551616 := by
  induction ls generalizing d with
  | nil => simp [digs]
  | cons r rs ih =>
    intro x hx
    simp only [digs, List.mem_cons] at hx
    rcases hx with rfl | hx
    · exact chain_lt _ _
    · exact ih _ x hx

theorem leb_succ (n k : Nat) : leb n (k + 1) = leb n k ++ [UInt8.ofNat (n / 2 ^ (8 * k))] := by simp [leb, List.range_succ]
theorem leb_length (n k : Nat) : (leb n k).length = k := by simp [leb]
theorem leb_zero (n : Nat) : leb n 0 = [] := rfl
end Go.Proofs.Ytmhmaodnkifcaaa
