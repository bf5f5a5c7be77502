/-
  What wire.PutBytes and the reference's PutBytes compute: a new row with the encoding behind the bytes.
-/
import Derived.Test.YtmhmaodnkifcaaaWireP
namespace Go.Proofs.Ytmhmaodnkifcaaa
open Go.RowKit

theorem putB_any (A A2 : Option Addr) (n c B n2 c2 : Nat) (l s : List UInt8) (w : World) (hn : l.length = n) (hs : Sl w B A (bys l)) (hB : B ≤ w.heap.size) (hm : n ≤ 35184372088832) (hn2 : s.length = n2) (hs2 : Sl w B A2 (bys s)) (hm2 : n2 ≤ 17592186044416) :
    Calls Try.prog 39 #[.slice A n c, .slice A2 n2 c2] w (OwnBytes w (l ++ encB s) (n + (encB s).length)) := by
  have H := hid (put_any A n c B n2 l w hn hs hB hm (by omega))
  have HL := hid (enc_len10 n2 (by omega))
  have HN := hid hn
  have HN2 := hid hn2
  clear hn hn2 hs
  go_enter Try.func39, Try.ntmps39
  go_wp2_with fail
  refine H.out.mono ?_
  rintro e w1 ⟨A1, c1, rfl, ho1, hb1⟩
  have hs1 := hs2.below (hb1.mono hB)
  have hz1 := hb1.size
  have hl1 := HL.out
  go_wp2_with (at_builtin; refine wp_app8 rfl (.tmp 9) (.tmp 10) rfl w.heap.size A1 (n + (enc n2).length) c1 (l ++ enc n2) rfl ho1 A2 B n2 c2 s rfl HN2.out hs1 (n + (enc n2).length + n2) rfl (by omega) hz1 ?_)
  intro A3 c3 w3 hown3 hg3
  have HB := hid (hb1.grown hg3 hz1 (own_lt ho1))
  have HO := hid hown3
  clear hown3 hg3 hb1 ho1 hs1 hs2
  go_wp2
  go_ret
  have e1 : n + (encB s).length = n + (enc n2).length + n2 := by unfold encB; rw [List.length_append, HN2.out]; omega
  have e2 : l ++ encB s = l ++ enc n2 ++ s := by unfold encB; rw [HN2.out, List.append_assoc]
  rw [e1, e2]
  exact ⟨A3, c3, rfl, by simpa using HO.out, HB.out⟩

theorem rputB_any (A A2 : Option Addr) (n c B n2 c2 : Nat) (l s : List UInt8) (w : World) (hn : l.length = n) (hs : Sl w B A (bys l)) (hB : B ≤ w.heap.size) (hm : n ≤ 35184372088832) (hn2 : s.length = n2) (hs2 : Sl w B A2 (bys s)) (hm2 : n2 ≤ 17592186044416) :
    Calls Try.prog 25 #[.slice A n c, .slice A2 n2 c2] w (OwnBytes w (l ++ encB s) (n + (encB s).length)) := by
  have H := hid (rput_any A n c B n2 l w hn hs hB hm (by omega))
  have HL := hid (enc_len10 n2 (by omega))
  have HN := hid hn
  have HN2 := hid hn2
  clear hn hn2 hs
  go_enter Try.func25, Try.ntmps25
  go_wp2_with fail
  refine H.out.mono ?_
  rintro e w1 ⟨A1, c1, rfl, ho1, hb1⟩
  have hs1 := hs2.below (hb1.mono hB)
  have hz1 := hb1.size
  have hl1 := HL.out
  go_wp2_with (at_builtin; refine wp_app8 rfl (.tmp 9) (.tmp 10) rfl w.heap.size A1 (n + (enc n2).length) c1 (l ++ enc n2) rfl ho1 A2 B n2 c2 s rfl HN2.out hs1 (n + (enc n2).length + n2) rfl (by omega) hz1 ?_)
  intro A3 c3 w3 hown3 hg3
  have HB := hid (hb1.grown hg3 hz1 (own_lt ho1))
  have HO := hid hown3
  clear hown3 hg3 hb1 ho1 hs1 hs2
  go_wp2
  go_ret
  have e1 : n + (encB s).length = n + (enc n2).length + n2 := by unfold encB; rw [List.length_append, HN2.out]; omega
  have e2 : l ++ encB s = l ++ enc n2 ++ s := by unfold encB; rw [HN2.out, List.append_assoc]
  rw [e1, e2]
  exact ⟨A3, c3, rfl, by simpa using HO.out, HB.out⟩
end Go.Proofs.Ytmhmaodnkifcaaa
