/- The plain law of the escaped texts. -/
import Derived.Laws.BytesArg
namespace Go.Proofs.YtanflcccjjbkgaaDoor

/-- the letter of a byte that is written by a backslash (0: it is written as it is); the byte of a letter -/
def eI (c : Int) : Int := if c = 92 then 92 else if c = 32 then 115 else if c = 10 then 110 else if c = 44 then 99 else if c = 61 then 101 else 0
def mI (x : Int) : Option Int := if x = 92 then some 92 else if x = 115 then some 32 else if x = 110 then some 10 else if x = 99 then some 44 else if x = 101 then some 61 else none
def esc1 (c : Int) : List Int := if eI c = 0 then [c] else [92, eI c]
def escL (l : List Int) : List Int := l.flatMap esc1
/-- what is read of an escaped text -/
def unesc : List Int → Option (List Int)
  | [] => some []
  | c :: l => if c = 92 then (match l with | [] => none | x :: l' => match mI x with | none => none | some d => (unesc l').map (d :: ·)) else if eI c = 0 then (unesc l).map (c :: ·) else none
termination_by l => l.length
theorem unesc_nil : unesc [] = some [] := by rw [unesc.eq_def]
theorem unesc_lone : unesc [92] = none := by rw [unesc.eq_def]; simp
theorem unesc_bad {x : Int} (l : List Int) (h : mI x = none) : unesc (92 :: x :: l) = none := by rw [unesc.eq_def]; simp [h]
theorem unesc_bs {x d : Int} (l : List Int) (h : mI x = some d) : unesc (92 :: x :: l) = (unesc l).map (d :: ·) := by rw [unesc.eq_def]; simp [h]
theorem unesc_plain {c : Int} (l : List Int) (h : eI c = 0) : unesc (c :: l) = (unesc l).map (c :: ·) := by
  have hc : c ≠ 92 := fun e => by subst e; exact absurd h (by decide)
  rw [unesc.eq_def]; simp [hc, h]
theorem unesc_odd {c : Int} (l : List Int) (hc : c ≠ 92) (h : eI c ≠ 0) : unesc (c :: l) = none := by rw [unesc.eq_def]; simp [hc, h]
theorem escL_append (a b : List Int) : escL (a ++ b) = escL a ++ escL b := by simp [escL]
theorem escL_cons (c : Int) (l : List Int) : escL (c :: l) = esc1 c ++ escL l := by simp [escL]
theorem mI_eI {c : Int} (h : eI c ≠ 0) : mI (eI c) = some c := by
  unfold eI at *
  by_cases h1 : c = 92
  · subst h1; rfl
  by_cases h2 : c = 32
  · subst h2; rfl
  by_cases h3 : c = 10
  · subst h3; rfl
  by_cases h4 : c = 44
  · subst h4; rfl
  by_cases h5 : c = 61
  · subst h5; rfl
  · simp [h1, h2, h3, h4, h5] at h
theorem eI_mI {x d : Int} (h : mI x = some d) : eI d = x ∧ eI d ≠ 0 := by
  unfold mI at h
  split at h
  · cases h; subst_vars; decide
  split at h
  · cases h; subst_vars; decide
  split at h
  · cases h; subst_vars; decide
  split at h
  · cases h; subst_vars; decide
  split at h
  · cases h; subst_vars; decide
  · cases h
theorem eI_back : eI 92 = 92 := rfl
/-- what is escaped is read as it was -/
theorem unesc_esc : ∀ l, unesc (escL l) = some l
  | [] => by simp [escL, unesc_nil]
  | c :: l => by
    rw [escL_cons]
    unfold esc1
    by_cases h : eI c = 0
    · rw [if_pos h]
      show unesc (c :: escL l) = _
      rw [unesc_plain _ h, unesc_esc l]; rfl
    · rw [if_neg h]
      show unesc (92 :: eI c :: escL l) = _
      rw [unesc_bs _ (mI_eI h), unesc_esc l]; rfl
/-- only what is escaped is read -/
theorem esc_unesc (n : Nat) : ∀ l v, l.length ≤ n → unesc l = some v → escL v = l := by
  induction n with
  | zero =>
    intro l v hl h
    obtain rfl : l = [] := List.eq_nil_of_length_eq_zero (by omega)
    rw [unesc_nil] at h; cases h; rfl
  | succ n ih =>
    intro l v hl h
    match l, hl, h with
    | [], _, h => rw [unesc_nil] at h; cases h; rfl
    | c :: l, hl, h =>
      by_cases hc : c = 92
      · subst hc
        match l, hl, h with
        | [], _, h => rw [unesc_lone] at h; cases h
        | x :: l', hl, h =>
          cases hm : mI x with
          | none => rw [unesc_bad _ hm] at h; cases h
          | some d =>
            rw [unesc_bs _ hm] at h
            simp only [Option.map_eq_some_iff] at h
            obtain ⟨u, hu, rfl⟩ := h
            obtain ⟨e1, e2⟩ := eI_mI hm
            rw [escL_cons, ih l' u (by simp at hl; omega) hu]
            unfold esc1
            rw [if_neg e2, e1]; rfl
      · by_cases he : eI c = 0
        · rw [unesc_plain _ he] at h
          simp only [Option.map_eq_some_iff] at h
          obtain ⟨u, hu, rfl⟩ := h
          rw [escL_cons, ih l u (by simp at hl; omega) hu]
          unfold esc1
          rw [if_pos he]; rfl
        · rw [unesc_odd _ hc he] at h; cases h
/-- nothing that is escaped stands there bare -/
theorem esc_bare : ∀ l, ∀ b ∈ escL l, b ≠ 32 ∧ b ≠ 10 ∧ b ≠ 44 ∧ b ≠ 61
  | [], b, h => by simp [escL] at h
  | c :: l, b, h => by
    rw [escL_cons, List.mem_append] at h
    rcases h with h | h
    · unfold esc1 at h
      by_cases he : eI c = 0
      · rw [if_pos he] at h
        simp only [List.mem_singleton] at h
        subst h
        refine ⟨?_, ?_, ?_, ?_⟩ <;> (rintro rfl; exact absurd he (by decide))
      · rw [if_neg he] at h
        simp only [List.mem_cons, List.not_mem_nil, or_false] at h
        rcases h with rfl | rfl
        · decide
        · unfold eI at he ⊢
          by_cases h1 : c = 92
          · subst h1; decide
          by_cases h2 : c = 32
          · subst h2; decide
          by_cases h3 : c = 10
          · subst h3; decide
          by_cases h4 : c = 44
          · subst h4; decide
          by_cases h5 : c = 61
          · subst h5; decide
          · simp [h1, h2, h3, h4, h5] at he
    · exact esc_bare l b h
end Go.Proofs.YtanflcccjjbkgaaDoor
