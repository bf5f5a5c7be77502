/-
  DigestByte, walked: a byte that is changed changes the digest.
-/
import Derived.Test.YtnjnlgpdkehdhaaLawD1
import Derived.Laws.BitsAllLaws
namespace Go.Proofs.Ytnjnlgpdkehdhaa
open Go.RowKit

theorem byte_none (A : Option Addr) (n c u v d : Nat) (w : World) (h : n = 0 ∨ 200 < n ∨ v = 0) :
    Calls Try.prog 4 #[.slice A n c, .int .u16 u, .int .u8 v, .int .u64 d] w fun e w' => e = .returned (.bool true) ∧ Below w.heap.size w w' := by
  by_cases h0 : n = 0
  · have e0 : ((n : Int) == 0) = true := by simp [h0]
    clear h0 h
    go_enter Try.func4, Try.ntmps4
    go_wp2_with (go_at_call 9; refine (awake_any _).mono ?_; rintro e w1 ⟨rfl, hb⟩)
    go_ret
    exact ⟨rfl, hb⟩
  · have e0 : ((n : Int) == 0) = false := by simp; omega
    by_cases h1 : 200 < n
    · clear h0 h
      go_enter Try.func4, Try.ntmps4
      go_wp2_with (go_at_call 9; refine (awake_any _).mono ?_; rintro e w1 ⟨rfl, hb⟩)
      go_ret
      exact ⟨rfl, hb⟩
    · have e1 : ((v : Int) == 0) = true := by
        have : v = 0 := by omega
        simp [this]
      clear h0 h
      go_enter Try.func4, Try.ntmps4
      go_wp2_with (go_at_call 9; refine (awake_any _).mono ?_; rintro e w1 ⟨rfl, hb⟩)
      go_ret
      exact ⟨rfl, hb⟩

theorem byte_some (A : Option Addr) (n c u d : Nat) (x : UInt8) (l : List UInt8) (w : World) (hn : l.length = n) (hs : Sl w w.heap.size A (bys l)) (hu : u < 65536) (h0 : 0 < n) (h1 : n ≤ 200) (h2 : x ≠ 0) :
    Calls Try.prog 4 #[.slice A n c, .int .u16 u, .int .u8 x.toNat, .int .u64 d] w fun e w' => e = .returned (.bool true) ∧ Below w.heap.size w w' := by
  have e0 : ((n : Int) == 0) = false := by simp; omega
  have e1 : ((x.toNat : Int) == 0) = false := by
    simp
    intro h
    exact h2 (UInt8.toNat_inj.1 h)
  have H2 := hid h2
  clear h2
  have HN := hid hn
  have hx := x.toNat_lt
  have r0 : 0 ≤ (u : Int) % (n : Int) := Int.emod_nonneg _ (by omega)
  have r1 : (u : Int) % (n : Int) < n := Int.emod_lt_of_pos _ (by omega)
  clear hn
  go_enter Try.func4, Try.ntmps4
  go_wp2_with (at_builtin; refine wp_app8 rfl (.tmp 23) (.tmp 24) rfl w.heap.size (some ⟨w.heap.size, 0, none⟩) 0 0 [] rfl (own_empty w _ _ (Nat.le_refl _)) A w.heap.size n c l rfl HN.out (hs.below ((Below.refl _ _).alloc (Nat.le_refl _) _)) n (by omega) (by omega) (by simp) ?_)
  intro A' c' w1 hown hg
  obtain ⟨g, rfl, hgb, hgw⟩ := own_at hown h0
  have hi : u % n < l.length := by rw [HN.out]; exact Nat.mod_lt _ h0
  obtain ⟨y, hy⟩ : ∃ y, y = l[u % n] := ⟨_, rfl⟩
  have hy' : l[u % n]? = some y := by rw [hy]; exact List.getElem?_eq_getElem hi
  have hcell := own_cell hown (i := u % n) (by omega) hy'
  have hfr := hown.frozenAt (u % n)
  have hxor : bits .xor .u8 (y.toNat : Int) (x.toNat : Int) = ((y ^^^ x).toNat : Int) := by
    rw [u8_xor_nat _ _ y.toNat_lt x.toNat_lt, UInt8.toNat_xor]
  have hset := own_set hown (u % n) (y ^^^ x)
  have hb1 := ((Below.refl w.heap.size w).alloc (Nat.le_refl _) (.cells #[] 5)).grown hg (by simp) (by intro k hk; simp [Value.ownBlock] at hk; omega)
  have hb2 := hb1.setCell (p := ⟨g, u % n, none⟩) hgb (.int .u8 ((y ^^^ x).toNat : Int))
  have hne : l[u % n] ≠ y ^^^ x := by
    rw [← hy]
    intro h
    have := congrArg (y ^^^ ·) h
    simp [← UInt8.xor_assoc] at this
    exact H2.out this.symm
  have key := fun d hd => fnv_set d hd l (u % n) (y ^^^ x) hi hne
  have K1 := hid (key fStart fStart_lt)
  have K2 := hid (key (fnv fStart (leb d 8)) (fnv_lt _ _ fStart_lt))
  have HS := hid hset
  have HB := hid hb2
  have h4 := (hs.below hb2)
  have HL := hid (show (l.set (u % n) (y ^^^ x)).length = n by simp [HN.out])
  clear key hne hy hy' hset hb1 hown hg hs hb2
  have hm : n ≤ maxLen := by unfold maxLen; omega
  go_wp2_with fail
  refine (awake_any _).mono ?_
  rintro e w3 ⟨rfl, hb3⟩
  have hsz := HB.out.size
  have hz3 := hb3.size
  have h5 := h4.below (hb3.mono hsz)
  have HO := own_below HS.out hb3
  have h6 := Sl.of_own HO
  have n1 : ((fnv fStart l : Int) != (fnv fStart (l.set (u % n) (y ^^^ x)) : Int)) = true := by
    have := K1.out
    simp
    omega
  have HB3 := hid (HB.out.trans (hb3.mono hsz))
  have hs3 := HB3.out.size
  clear HO h4 hb3
  go_wp2_with fail
  refine (sum_any A n c _ l _ HN.out h5 hm).mono ?_
  rintro e w4 ⟨rfl, rfl⟩
  go_wp2_with fail
  refine (sum_any _ n c' _ _ _ HL.out h6 hm).mono ?_
  rintro e w4 ⟨rfl, rfl⟩
  go_wp2_with fail
  clear n1
  refine (chain_any A n c _ d l _ HN.out h5 hm hs3).mono ?_
  rintro e w4 ⟨rfl, hb4⟩
  have h7 := h6.below hb4
  have hz4 := hb4.size
  have n2 : ((chain d l : Int) != (chain d (l.set (u % n) (y ^^^ x)) : Int)) = true := by
    have := K2.out
    unfold chain
    simp
    omega
  go_wp2_with fail
  refine (chain_any _ n c' _ d _ _ HL.out h7 hm hz4).mono ?_
  rintro e w5 ⟨rfl, hb5⟩
  go_wp2
  go_ret
  exact ⟨rfl, (HB3.out.trans (hb4.mono hs3)).trans (hb5.mono (by omega))⟩

theorem law_byte (A : Option Addr) (n c u v d : Nat) (l : List UInt8) (w : World) (hn : l.length = n) (hs : Sl w w.heap.size A (bys l)) (hu : u < 65536) (hv : v < 256) :
    Calls Try.prog 4 #[.slice A n c, .int .u16 u, .int .u8 v, .int .u64 d] w fun e w' => e = .returned (.bool true) ∧ Below w.heap.size w w' := by
  by_cases h : n = 0 ∨ 200 < n ∨ v = 0
  · exact byte_none A n c u v d w h
  · have e : v = (UInt8.ofNat v).toNat := by simp [UInt8.toNat_ofNat']; omega
    have := byte_some A n c u d (UInt8.ofNat v) l w hn hs hu (by omega) (by omega) (fun h0 => by rw [h0] at e; simp at e; omega)
    rw [← e] at this
    exact this
end Go.Proofs.Ytnjnlgpdkehdhaa
