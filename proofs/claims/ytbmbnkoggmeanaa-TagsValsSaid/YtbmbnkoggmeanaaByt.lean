/- The bytes of a string as a list. -/
import Derived.Test.YtbmbnkoggmeanaaRows
namespace Go.Proofs.Ytbmbnkoggmeanaa.Byt
theorem loop_eq (s : ByteArray) : ∀ (d i : Nat) (r : List UInt8), i + d = s.size → ByteArray.toList.loop s i r = r.reverse ++ s.data.toList.drop i
  | 0, i, r, h => by
    have hs : s.size = s.data.toList.length := by rw [Array.length_toList]; rfl
    unfold ByteArray.toList.loop
    rw [if_neg (by omega), List.drop_eq_nil_of_le (by omega)]
    simp
  | d + 1, i, r, h => by
    have hs : s.size = s.data.toList.length := by rw [Array.length_toList]; rfl
    have hi : i < s.data.toList.length := by omega
    unfold ByteArray.toList.loop
    rw [if_pos (by omega), loop_eq s d (i + 1) _ (by omega), List.drop_eq_getElem_cons hi]
    have h2 : i < s.data.size := by simpa using hi
    have : s.get! i = s.data.toList[i] := by
      show s.data[i]! = _
      rw [getElem!_pos s.data i h2]
      simp
    rw [this]
    simp
theorem toList_eq (s : ByteArray) : s.toList = s.data.toList := by
  unfold ByteArray.toList
  rw [loop_eq s s.size 0 [] (by omega)]
  simp
end Go.Proofs.Ytbmbnkoggmeanaa.Byt
