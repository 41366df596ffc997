/- The escaped texts by their index: what a loop over the bytes knows. -/
import Derived.Test.YtanflcccjjbkgaaDoorMeP
namespace Go.Proofs.YtanflcccjjbkgaaDoor

/-- the numbers of a text's bytes -/
def numsS (s : ByteArray) : List Int := s.data.toList.map fun x => (x.toNat : Int)
theorem numsS_len (s : ByteArray) : (numsS s).length = s.size := by simp [numsS]
theorem numsS_get {s : ByteArray} {i : Nat} (h : i < s.size) : (numsS s)[i]? = some ((s[i]).toNat : Int) := by
  have h' : i < s.data.toList.length := by simpa using h
  simp only [numsS, List.getElem?_map, List.getElem?_eq_getElem h', Option.map_some]
  rfl
theorem drop_at {l : List Int} {i : Nat} {c : Int} (h : l[i]? = some c) : l.drop i = c :: l.drop (i + 1) := by
  obtain ⟨hi, rfl⟩ := List.getElem?_eq_some_iff.1 h
  exact List.drop_eq_getElem_cons hi
theorem take_at {l : List Int} {i : Nat} {c : Int} (h : l[i]? = some c) : l.take (i + 1) = l.take i ++ [c] := by
  obtain ⟨hi, rfl⟩ := List.getElem?_eq_some_iff.1 h
  rw [List.take_succ_eq_append_getElem hi]
/-- one byte more is escaped -/
theorem esc_step {l : List Int} {i : Nat} {c : Int} (h : l[i]? = some c) : escL (l.take (i + 1)) = escL (l.take i) ++ esc1 c := by
  rw [take_at h, escL_append]; simp [escL]
theorem esc_whole (l : List Int) : escL (l.take l.length) = escL l := by rw [List.take_length]
/-- so much has been read: 'acc'; the rest begins at i -/
def ReadTo (l : List Int) (i : Nat) (acc : List Int) : Prop := unesc l = (unesc (l.drop i)).map (acc ++ ·)
theorem readTo_zero (l : List Int) : ReadTo l 0 [] := by
  unfold ReadTo; rw [List.drop_zero]; cases unesc l <;> simp
theorem readTo_plain {l : List Int} {i : Nat} {acc : List Int} {c : Int} (h : ReadTo l i acc) (hc : l[i]? = some c) (he : eI c = 0) : ReadTo l (i + 1) (acc ++ [c]) := by
  unfold ReadTo at *
  rw [h, drop_at hc, unesc_plain _ he]
  cases unesc (l.drop (i + 1)) <;> simp
theorem readTo_bs {l : List Int} {i : Nat} {acc : List Int} {x d : Int} (h : ReadTo l i acc) (hc : l[i]? = some 92) (hx : l[i + 1]? = some x) (hm : mI x = some d) : ReadTo l (i + 2) (acc ++ [d]) := by
  unfold ReadTo at *
  rw [h, drop_at hc, drop_at hx, unesc_bs _ hm]
  cases unesc (l.drop (i + 1 + 1)) <;> simp
theorem readTo_bad {l : List Int} {i : Nat} {acc : List Int} {x : Int} (h : ReadTo l i acc) (hc : l[i]? = some 92) (hx : l[i + 1]? = some x) (hm : mI x = none) : unesc l = none := by
  unfold ReadTo at h
  rw [h, drop_at hc, drop_at hx, unesc_bad _ hm]; rfl
theorem readTo_lone {l : List Int} {i : Nat} {acc : List Int} (h : ReadTo l i acc) (hc : l[i]? = some 92) (hx : l[i + 1]? = none) : unesc l = none := by
  unfold ReadTo at h
  rw [h, drop_at hc, List.drop_eq_nil_of_le (by simpa using hx), unesc_lone]; rfl
theorem readTo_odd {l : List Int} {i : Nat} {acc : List Int} {c : Int} (h : ReadTo l i acc) (hc : l[i]? = some c) (h92 : c ≠ 92) (he : eI c ≠ 0) : unesc l = none := by
  unfold ReadTo at h
  rw [h, drop_at hc, unesc_odd _ h92 he]; rfl
theorem readTo_end {l : List Int} {i : Nat} {acc : List Int} (h : ReadTo l i acc) (hi : l.length ≤ i) : unesc l = some acc := by
  unfold ReadTo at h
  rw [h, List.drop_eq_nil_of_le hi, unesc_nil]; simp
end Go.Proofs.YtanflcccjjbkgaaDoor
