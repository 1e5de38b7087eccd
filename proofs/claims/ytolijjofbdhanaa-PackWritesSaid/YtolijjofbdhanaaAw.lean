/-
  awake returns true.
-/
import Derived.Test.YtolijjofbdhanaaRf
namespace Go.Proofs.Ytolijjofbdhanaa
open Go.RowKit

def sAb : ByteArray := ⟨#[97, 98]⟩
theorem txtAb : txt sAb = [0, 0, 0, 0, 0, 0, 0, 2, 97, 98] := by decide +kernel
theorem rdAb : rT (txt sAb) false 5 = ⟨sAb, [], false⟩ := by
  have h1 : rI (txt sAb) false = ⟨2, [97, 98], false⟩ := by
    unfold rI; rw [txtAb, if_neg (by decide)]
    have : val8 [0, 0, 0, 0, 0, 0, 0, 2, 97, 98] = 2 := by decide +kernel
    rw [this]; rfl
  have h2 : rC (txt sAb) false 5 = ⟨2, [97, 98], false⟩ := by unfold rC; rw [h1, if_neg (by decide)]
  unfold rT; rw [h2, if_neg (by decide)]; rfl

set_option maxHeartbeats 400000 in
theorem awake_any (w : World) : Calls Try.prog 9 #[] w fun e w' => e = .returned (.bool true) ∧ Below w.heap.size w w' := by
  go_enter Try.func9, Try.ntmps9
  go_wp2_with fail
  refine (text_any none 0 0 [] sAb _ (isB_nil _) (by decide) (by decide)).mono ?_
  rintro e w1 ⟨v, rfl, hown, hb1⟩
  have hz1 := hb1.size
  rw [List.nil_append] at hown
  obtain ⟨ao, c, rfl, hbs⟩ := hown.isB
  clear hown
  rw [txt_len, show 8 + sAb.size = 10 from rfl] at hbs ⊢
  go_wp2_with fail
  refine (read_any ao 10 c _ _ hbs (by decide)).mono ?_
  rintro e w2 ⟨a, rfl, hr, ha1, ha2, hb2⟩
  have hconv := conv_any w2 _ _ _ _ (hbs.below hb2)
  have hs : (strB (txt sAb)).toList = [0, 0, 0, 0, 0, 0, 0, 2, 97, 98] := by rw [txtAb]; decide +kernel
  generalize strB (txt sAb) = s at hconv hs
  have HR := Lib.hid hr; clear hr hbs
  have hb : Below w.heap.size w w2 := hb1.trans (hb2.mono hz1)
  have hge : w.heap.size ≤ a := by omega
  have hab : sAb.toList = [97, 98] := by decide +kernel
  have hz2 := hb.size
  clear hb1 hb2 ha1
  go_wp2_with fail
  refine (rdText_any a _ _ 5 _ HR.out (by decide +kernel)).mono ?_
  rintro e w3 ⟨rfl, hr3, ho3⟩
  rw [rdAb] at hr3 ⊢
  simp only at hr3 ⊢
  go_wp2_with fail
  refine (end_any a _ _ _ hr3).mono ?_
  rintro e w4 ⟨rfl, rfl⟩
  go_wp2
  go_ret
  exact ⟨rfl, hb.trans (ho3.below hz2 (by simpa using hge))⟩
end Go.Proofs.Ytolijjofbdhanaa
