/- The plain law of an address's text, V: the reference's reading, step by step. -/
import Derived.Test.YtgdgklibilddgaaDoorAdL
namespace Go.Proofs.YtgdgklibilddgaaDoor

/-- the reference's reading of what is left of a text -/
def refT (l : List UInt8) (G : List Nat) (gap : Option Nat) : Option (Bool × Nat) := refP (pieces 58 l) G gap
theorem span_at (c : UInt8) (l : List UInt8) : ∃ p tl, l = p ++ tl ∧ c ∉ p ∧ ((tl = [] ∧ pieces c l = [p]) ∨ ∃ r, tl = c :: r ∧ pieces c l = p :: pieces c r) := by
  by_cases h : c ∈ l
  · obtain ⟨p, r, e, hp⟩ : ∃ p r, l = p ++ c :: r ∧ c ∉ p := by
      induction l with
      | nil => simp at h
      | cons x r ih =>
        by_cases e : x = c
        · subst e; exact ⟨[], r, rfl, by simp⟩
        · have hr : c ∈ r := by
            rcases List.mem_cons.1 h with k | k
            · exact absurd k.symm e
            · exact k
          obtain ⟨p, r', e1, e2⟩ := ih hr
          exact ⟨x :: p, r', by rw [e1]; rfl, by simp [Ne.symm e, e2]⟩
    exact ⟨p, c :: r, e, hp, .inr ⟨r, rfl, by rw [e, pieces_first hp]⟩⟩
  · exact ⟨l, [], by simp, h, .inl ⟨rfl, pieces_plain h⟩⟩
theorem four_colon {l : List UInt8} (h : (58 : UInt8) ∈ l) : refFour none [] l = none := by
  rw [refFour_four]
  unfold four
  split
  · have : ∃ p ∈ pieces 46 l, (58 : UInt8) ∈ p := by
      revert h
      generalize l = l
      induction l with
      | nil => intro h; simp at h
      | cons x r ih =>
        intro h
        by_cases e : x = 46
        · subst e
          rw [pieces_sep]
          have : (58 : UInt8) ∈ r := by
            rcases List.mem_cons.1 h with k | k
            · exact absurd k (by decide)
            · exact k
          obtain ⟨p, h1, h2⟩ := ih this
          exact ⟨p, by simp [h1], h2⟩
        · obtain ⟨p, q, e1, e2⟩ := pieces_cons (r := r) e
          rw [e2]
          rcases List.mem_cons.1 h with k | k
          · exact ⟨x :: p, by simp, by simp [k]⟩
          · obtain ⟨p', h1, h2⟩ := ih k
            rw [e1] at h1
            rcases List.mem_cons.1 h1 with k' | k'
            · subst k'; exact ⟨x :: p', by simp, by simp [h2]⟩
            · exact ⟨p', by simp [k'], h2⟩
    obtain ⟨p, h1, h2⟩ := this
    have hd : dec8 p = none := by
      cases hd : dec8 p with
      | none => rfl
      | some k =>
        obtain ⟨h3, h4⟩ := dec8_text hd
        exact absurd (h4 ▸ h2) (decDigits_clean k (by omega)).2
    have : ∀ (l : List (List UInt8)), p ∈ l → l.mapM dec8 = none := by
      intro l
      induction l with
      | nil => intro h; simp at h
      | cons a r ih =>
        intro hm
        rw [mapM_cons8]
        rcases List.mem_cons.1 hm with e | e
        · subst e; rw [hd]
        · cases dec8 a with
          | none => rfl
          | some _ => simp [ih e]
    exact this _ h1
  · rfl
section
variable {p tl : List UInt8} {G : List Nat} {gap : Option Nat} (h58 : (58 : UInt8) ∉ p)
include h58
theorem refT_dot (h46 : (46 : UInt8) ∈ p) (ht : tl = [] ∨ ∃ r, tl = 58 :: r) : refT (p ++ tl) G gap = match refFour none [] (p ++ tl) with | none => none | some t => fin (G ++ grp t) gap := by
  unfold refT
  rcases ht with rfl | ⟨r, rfl⟩
  · rw [List.append_nil, pieces_plain h58, refP, if_pos h46, if_pos rfl, refFour_four]
    cases four (pieces 46 p) <;> rfl
  · rw [pieces_first h58, refP, if_pos h46, if_neg (pieces_ne 58 r), four_colon (by simp)]
variable (h46 : (46 : UInt8) ∉ p)
include h46
theorem refT_bad (hx : hex16 p = none) (ht : tl = [] ∨ ∃ r, tl = 58 :: r) : refT (p ++ tl) G gap = none := by
  unfold refT
  rcases ht with rfl | ⟨r, rfl⟩
  · rw [List.append_nil, pieces_plain h58, refP, if_neg h46, hx]
  · rw [pieces_first h58, refP, if_neg h46, hx]
variable {g : Nat} (hg : hex16 p = some g)
include hg
theorem refT_full (h8 : 8 ≤ G.length) (ht : tl = [] ∨ ∃ r, tl = 58 :: r) : refT (p ++ tl) G gap = none := by
  unfold refT
  rcases ht with rfl | ⟨r, rfl⟩
  · rw [List.append_nil, pieces_plain h58, refP, if_neg h46, hg]; exact if_pos h8
  · rw [pieces_first h58, refP, if_neg h46, hg]; exact if_pos h8
variable (h8 : ¬ 8 ≤ G.length)
include h8
theorem refT_last : refT (p ++ []) G gap = fin (G ++ [g]) gap := by
  unfold refT
  rw [List.append_nil, pieces_plain h58, refP, if_neg h46, hg]
  simp only
  rw [if_neg h8]
theorem refT_trail : refT (p ++ [58]) G gap = none := by
  unfold refT
  rw [pieces_first h58, refP, if_neg h46, hg]
  simp only
  rw [if_neg h8]
  rfl
theorem refT_twice {r : List UInt8} (hj : gap.isSome = true) : refT (p ++ 58 :: 58 :: r) G gap = none := by
  unfold refT
  obtain ⟨c, q, e⟩ := pieces_form 58 r
  rw [pieces_first h58, pieces_sep, e, refP, if_neg h46, hg]
  simp only
  rw [if_neg h8, if_pos hj]
theorem refT_end : refT (p ++ [58, 58]) G none = fin (G ++ [g]) (some (G.length + 1)) := by
  unfold refT
  rw [pieces_first h58, pieces_sep, show pieces 58 [] = [[]] from rfl, refP, if_neg h46, hg]
  simp only
  rw [if_neg h8]
  simp
theorem refT_gap {r : List UInt8} (hr : r ≠ []) : refT (p ++ 58 :: 58 :: r) G none = refT r (G ++ [g]) (some (G.length + 1)) := by
  unfold refT
  obtain ⟨c, q, e⟩ := pieces_form 58 r
  rw [pieces_first h58, pieces_sep, e, refP, if_neg h46, hg]
  simp only
  rw [if_neg h8, if_neg (by simp)]
  rw [if_neg]
  rintro ⟨rfl, rfl⟩
  rcases pieces_empty e with ⟨k, _⟩ | ⟨r', _, k⟩
  · exact hr k
  · exact pieces_ne 58 r' k.symm
theorem refT_next {x : UInt8} {r : List UInt8} (hx : x ≠ 58) : refT (p ++ 58 :: x :: r) G gap = refT (x :: r) (G ++ [g]) gap := by
  unfold refT
  obtain ⟨a, q, e1, e2⟩ := pieces_cons (c := 58) (r := r) hx
  rw [pieces_first h58, e2, refP, if_neg h46, hg]
  simp only
  rw [if_neg h8]
end
/-- the bytes of groups -/
def byts (G : List Nat) : List Nat := G.flatMap fun g => [g / 256, g % 256]
theorem byts_len (G : List Nat) : (byts G).length = 2 * G.length := by
  induction G with
  | nil => rfl
  | cons g G ih => unfold byts at *; rw [List.flatMap_cons, List.length_append, ih]; simp; omega
theorem byts_app (A B : List Nat) : byts (A ++ B) = byts A ++ byts B := by unfold byts; exact List.flatMap_append
theorem byts_lt {G : List Nat} (h : ∀ g ∈ G, g < 65536) : ∀ b ∈ byts G, b < 256 := by
  intro b hb
  unfold byts at hb
  obtain ⟨g, hg, hb⟩ := List.mem_flatMap.1 hb
  have := h g hg
  simp at hb
  omega
theorem byts_nulls (n : Nat) : byts (nulls n) = List.replicate (2 * n) 0 := by
  induction n with
  | zero => rfl
  | succ n ih =>
    unfold nulls at *
    rw [List.replicate_succ, show 2 * (n + 1) = 2 * n + 1 + 1 by omega, List.replicate_succ, List.replicate_succ, ← ih]
    rfl
theorem valB_byts : ∀ {G : List Nat}, (∀ g ∈ G, g < 65536) → valB (byts G) = valG G := by
  have key : ∀ (G : List Nat) (a : Nat), (∀ g ∈ G, g < 65536) → (byts G).foldl (fun a b => 256 * a + b) a = G.foldl (fun a g => 65536 * a + g) a := by
    intro G
    induction G with
    | nil => intro a _; rfl
    | cons g G ih =>
      intro a h
      have := h g (by simp)
      have e : byts (g :: G) = g / 256 :: g % 256 :: byts G := rfl
      rw [e, List.foldl_cons, List.foldl_cons, List.foldl_cons, ih _ (fun x hx => h x (by simp [hx]))]
      congr 1
      omega
  intro G h
  exact key G 0 h
theorem byts_grp {t : List Nat} (h : t.length = 4) (hl : ∀ k ∈ t, k ≤ 255) : byts (grp t) = t := by
  match t, h with
  | [a, b, c, d], _ =>
    have ha := hl a (by simp)
    have hb := hl b (by simp)
    have hc := hl c (by simp)
    have hd := hl d (by simp)
    show [(256 * a + b) / 256, (256 * a + b) % 256, (256 * c + d) / 256, (256 * c + d) % 256] = _
    congr 1
    · omega
    congr 1
    · omega
    congr 1
    · omega
    congr 1
    omega
theorem grp_lt {t : List Nat} (hl : ∀ k ∈ t, k ≤ 255) : ∀ g ∈ grp t, g < 65536 := by
  intro g hg
  unfold grp at hg
  split at hg
  · rename_i a b c d
    have ha := hl a (by simp)
    have hb := hl b (by simp)
    have hc := hl c (by simp)
    have hd := hl d (by simp)
    simp at hg
    omega
  · simp at hg
theorem grp_len {t : List Nat} (h : t.length = 4) : (grp t).length = 2 := by
  match t, h with
  | [a, b, c, d], _ => rfl
/-- hexadecimal digits, one more -/
theorem hexM_snoc : ∀ (w : List UInt8) (n : Nat) (c : UInt8), hexM n (w ++ [c]) = match hexM n w with | none => none | some m => (hexV c).map (16 * m + ·)
  | [], n, c => by
    simp only [List.nil_append, hexM]
    cases hexV c <;> rfl
  | x :: w, n, c => by
    simp only [List.cons_append, hexM]
    cases hexV x with
    | none => rfl
    | some d => exact hexM_snoc w (16 * n + d) c
end Go.Proofs.YtgdgklibilddgaaDoor
