/- The plain law of an address's text, III: what is printed, and that it is read again. -/
import Derived.Test.YtgdgklibilddgaaDoorAdQ
import Derived.Lib.Join
namespace Go.Proofs.YtgdgklibilddgaaDoor

def hexC (d : Nat) : UInt8 := if d ≤ 9 then UInt8.ofNat (48 + d) else UInt8.ofNat (87 + d)
def hexD (g : Nat) : List UInt8 := if g < 16 then [hexC g] else if g < 256 then [hexC (g / 16), hexC (g % 16)] else if g < 4096 then [hexC (g / 256), hexC (g / 16 % 16), hexC (g % 16)] else [hexC (g / 4096), hexC (g / 256 % 16), hexC (g / 16 % 16), hexC (g % 16)]
theorem hexV_C : ∀ d, d < 16 → hexV (hexC d) = some d := by decide
theorem hexC_ne : ∀ d, d < 16 → hexC d ≠ 58 ∧ hexC d ≠ 46 := by decide
theorem hexD_mem {g : Nat} (hg : g < 65536) {c : UInt8} (h : c ∈ hexD g) : ∃ d, d < 16 ∧ c = hexC d := by
  unfold hexD at h
  split at h
  · simp at h; exact ⟨g, by assumption, h⟩
  split at h
  · simp at h; rcases h with h | h
    · exact ⟨_, by omega, h⟩
    · exact ⟨_, by omega, h⟩
  split at h
  · simp at h; rcases h with h | h | h
    · exact ⟨_, by omega, h⟩
    · exact ⟨_, by omega, h⟩
    · exact ⟨_, by omega, h⟩
  · simp at h; rcases h with h | h | h | h
    · exact ⟨_, by omega, h⟩
    · exact ⟨_, by omega, h⟩
    · exact ⟨_, by omega, h⟩
    · exact ⟨_, by omega, h⟩
theorem hexD_ne (g : Nat) : hexD g ≠ [] := by
  unfold hexD
  split
  · simp
  split
  · simp
  split <;> simp
theorem hexD_58 {g : Nat} (hg : g < 65536) : (58 : UInt8) ∉ hexD g := fun h => by
  obtain ⟨d, h1, h2⟩ := hexD_mem hg h
  exact (hexC_ne d h1).1 h2.symm
theorem hexD_46 {g : Nat} (hg : g < 65536) : (46 : UInt8) ∉ hexD g := fun h => by
  obtain ⟨d, h1, h2⟩ := hexD_mem hg h
  exact (hexC_ne d h1).2 h2.symm
theorem hex16_D {g : Nat} (hg : g < 65536) : hex16 (hexD g) = some g := by
  unfold hex16
  rw [if_neg (by
    rintro (h | h)
    · exact hexD_ne g h
    · unfold hexD at h; split at h
      · simp at h
      split at h
      · simp at h
      split at h <;> simp at h)]
  unfold hexD
  split
  · rename_i h; simp [hexM, hexV_C _ h]
  split
  · simp only [hexM, hexV_C (g / 16) (by omega), hexV_C (g % 16) (by omega)]; congr 1; omega
  split
  · simp only [hexM, hexV_C (g / 256) (by omega), hexV_C (g / 16 % 16) (by omega), hexV_C (g % 16) (by omega)]; congr 1; omega
  · simp only [hexM, hexV_C (g / 4096) (by omega), hexV_C (g / 256 % 16) (by omega), hexV_C (g / 16 % 16) (by omega), hexV_C (g % 16) (by omega)]; congr 1; omega

/-! texts with a sign in between -/
theorem join_one (c : List UInt8) (p : List UInt8) : Lib.join [p] c = p := by simp [Lib.join, List.intercalate]
theorem join_cons (c : List UInt8) (p x : List UInt8) (q : List (List UInt8)) : Lib.join (p :: x :: q) c = p ++ c ++ Lib.join (x :: q) c := by simp [Lib.join, List.intercalate]
theorem join_snoc (c : List UInt8) : ∀ (l : List (List UInt8)) (p : List UInt8), Lib.join (l ++ [p]) c = Lib.join l c ++ (if l = [] then [] else c) ++ p
  | [], p => by simp [Lib.join, List.intercalate]
  | [a], p => by simp [Lib.join, List.intercalate]
  | a :: b :: l, p => by
    have := join_snoc c (b :: l) p
    rw [List.cons_append, List.cons_append, join_cons, join_cons]
    rw [List.cons_append] at this
    rw [this]
    simp
theorem pieces_join {c : UInt8} : ∀ {l : List (List UInt8)}, l ≠ [] → (∀ p ∈ l, c ∉ p) → pieces c (Lib.join l [c]) = l
  | [], h, _ => absurd rfl h
  | [p], _, h => by rw [join_one, pieces_plain (h p (by simp))]
  | p :: x :: q, _, h => by
    rw [join_cons, List.append_assoc]
    show pieces c (p ++ c :: Lib.join (x :: q) [c]) = _
    rw [pieces_first (h p (by simp)), pieces_join (by simp) (fun p hp => h p (by simp [hp]))]

/-! short addresses -/
def bytesB (k n : Nat) : List Nat := (List.range k).map fun i => n / 256 ^ (k - 1 - i) % 256
theorem foldl_lin (m : Nat) : ∀ (l : List Nat) (a : Nat), l.foldl (fun a b => m * a + b) a = a * m ^ l.length + l.foldl (fun a b => m * a + b) 0
  | [], a => by simp
  | x :: l, a => by
    rw [List.foldl_cons, List.foldl_cons, foldl_lin m l (m * a + x), foldl_lin m l (m * 0 + x), List.length_cons, Nat.pow_succ]
    have e : (m * a + x) * m ^ l.length = a * (m ^ l.length * m) + (m * 0 + x) * m ^ l.length := by
      rw [Nat.add_mul, Nat.mul_zero, Nat.zero_add, Nat.mul_comm m a, Nat.mul_assoc, Nat.mul_comm m]
    omega
theorem bytesB_four (n : Nat) : bytesB 4 n = [n / 16777216 % 256, n / 65536 % 256, n / 256 % 256, n % 256] := by
  simp [bytesB, List.range, List.range.loop]
theorem valB_four {n : Nat} (h : n < 4294967296) : valB (bytesB 4 n) = n := by
  rw [bytesB_four]
  simp only [valB, List.foldl_cons, List.foldl_nil]
  omega
def print4 (n : Nat) : List UInt8 := Lib.join ((bytesB 4 n).map Lib.decDigits) [46]
theorem decDigits_clean : ∀ k, k < 256 → (46 : UInt8) ∉ Lib.decDigits k ∧ (58 : UInt8) ∉ Lib.decDigits k := by decide +kernel
theorem mem_join {c x : UInt8} : ∀ {l : List (List UInt8)}, x ∈ Lib.join l [c] → x = c ∨ ∃ p ∈ l, x ∈ p
  | [], h => by simp [Lib.join, List.intercalate] at h
  | [p], h => by rw [join_one] at h; exact .inr ⟨p, by simp, h⟩
  | p :: y :: q, h => by
    rw [join_cons, List.append_assoc, List.mem_append, List.mem_append] at h
    rcases h with h | h | h
    · exact .inr ⟨p, by simp, h⟩
    · simp at h; exact .inl h
    · rcases mem_join h with h | ⟨p', h1, h2⟩
      · exact .inl h
      · exact .inr ⟨p', by simp [h1], h2⟩
theorem mapM_dec8 : ∀ {l : List Nat}, (∀ k ∈ l, k < 256) → (l.map Lib.decDigits).mapM dec8 = some l
  | [], _ => rfl
  | k :: l, h => by
    rw [List.map_cons, mapM_cons8, dec8_all k (h k (by simp)), mapM_dec8 (fun k hk => h k (by simp [hk]))]; rfl
theorem bytesB_lt {k n b : Nat} (h : b ∈ bytesB k n) : b < 256 := by
  simp only [bytesB, List.mem_map] at h
  obtain ⟨i, _, rfl⟩ := h
  exact Nat.mod_lt _ (by omega)
/-- what is printed of a short one is read again -/
theorem parse_print4 {n : Nat} (h : n < 4294967296) : parseA (print4 n) = some (false, n) := by
  have hlt : ∀ k ∈ bytesB 4 n, k < 256 := fun k hk => bytesB_lt hk
  unfold parseA print4
  have h58 : (58 : UInt8) ∉ Lib.join ((bytesB 4 n).map Lib.decDigits) [46] := by
    intro hm
    rcases mem_join hm with hm | ⟨p, h1, h2⟩
    · cases hm
    · obtain ⟨k, hk, rfl⟩ := List.mem_map.1 h1
      exact (decDigits_clean k (hlt k hk)).2 h2
  rw [if_neg h58, pieces_join (by rw [bytesB_four]; simp) (fun p hp => by
    obtain ⟨k, hk, rfl⟩ := List.mem_map.1 hp
    exact (decDigits_clean k (hlt k hk)).1)]
  unfold four
  rw [if_pos (by rw [bytesB_four]; rfl), mapM_dec8 hlt, Option.map_some, valB_four h]

/-! long ones -/
def joinH (G : List Nat) : List UInt8 := Lib.join (G.map hexD) [58]
theorem joinH_snoc (l : List Nat) (g : Nat) : joinH (l ++ [g]) = joinH l ++ (if l = [] then [] else [58]) ++ hexD g := by
  unfold joinH
  rw [List.map_append, List.map_singleton, join_snoc]
  cases l <;> simp
/-- no two colons side by side, none at the end -/
def calm : List UInt8 → Prop
  | [] => True
  | x :: r => (x = 58 → ∃ y r', r = y :: r' ∧ y ≠ 58) ∧ calm r
theorem calm_plain : ∀ {p : List UInt8}, (58 : UInt8) ∉ p → calm p
  | [], _ => trivial
  | x :: r, h => ⟨fun e => absurd (by simp [e]) h, calm_plain fun e => h (by simp [e])⟩
theorem calm_app : ∀ {p r : List UInt8}, (58 : UInt8) ∉ p → calm r → (∃ y r', r = y :: r' ∧ y ≠ 58) → calm (p ++ 58 :: r)
  | [], r, _, hr, hy => ⟨fun _ => hy, hr⟩
  | x :: p, r, h, hr, hy => ⟨fun e => absurd (by simp [e]) h, calm_app (fun e => h (by simp [e])) hr hy⟩
theorem head_ne {p : List UInt8} (h0 : p ≠ []) (h : (58 : UInt8) ∉ p) (r : List UInt8) : ∃ y r', p ++ r = y :: r' ∧ y ≠ 58 := by
  match p, h0, h with
  | y :: p, _, h => exact ⟨y, p ++ r, rfl, fun e => h (by simp [e])⟩
theorem calm_joinH : ∀ {G : List Nat}, (∀ g ∈ G, g < 65536) → calm (joinH G)
  | [], _ => trivial
  | [g], h => by rw [show joinH [g] = hexD g from join_one _ _]; exact calm_plain (hexD_58 (h g (by simp)))
  | g :: g' :: G, h => by
    have e : joinH (g :: g' :: G) = hexD g ++ 58 :: joinH (g' :: G) := by
      show Lib.join (hexD g :: hexD g' :: G.map hexD) [58] = _
      rw [join_cons, List.append_assoc]; rfl
    rw [e]
    refine calm_app (hexD_58 (h g (by simp))) (calm_joinH fun x hx => h x (by simp [hx])) ?_
    match G with
    | [] => rw [show joinH [g'] = hexD g' from join_one _ _, ← List.append_nil (hexD g')]; exact head_ne (hexD_ne g') (hexD_58 (h g' (by simp))) []
    | g2 :: G =>
      have e2 : joinH (g' :: g2 :: G) = hexD g' ++ ([58] ++ joinH (g2 :: G)) := by
        show Lib.join (hexD g' :: hexD g2 :: G.map hexD) [58] = _
        rw [join_cons, List.append_assoc]; rfl
      rw [e2]
      exact head_ne (hexD_ne g') (hexD_58 (h g' (by simp))) _
theorem pre_no {x : UInt8} {r : List UInt8} (h : x = 58 → ∃ y r', r = y :: r' ∧ y ≠ 58) : [58, 58].isPrefixOf (x :: r) = false := by
  by_cases e : x = 58
  · obtain ⟨y, r', rfl, hy⟩ := h e
    simp [List.isPrefixOf, Ne.symm hy]
  · simp [List.isPrefixOf, Ne.symm e]
theorem cutL_calm : ∀ {u : List UInt8}, calm u → cutL u = (u, [], false)
  | [], _ => rfl
  | x :: r, h => by rw [cutL, pre_no h.1, cutL_calm h.2]; rfl
theorem cutL_two : ∀ {u : List UInt8}, calm u → ∀ r, cutL (u ++ 58 :: 58 :: r) = (u, r, true)
  | [], _, r => by simp [cutL, List.isPrefixOf]
  | x :: u, h, r => by
    rw [List.cons_append, cutL, pre_no (fun e => by
      obtain ⟨y, r', e1, e2⟩ := h.1 e
      rw [e1]; exact ⟨y, _, rfl, e2⟩), cutL_two h.2 r]; rfl
theorem sideP_hex (last : Bool) : ∀ {G : List Nat}, (∀ g ∈ G, g < 65536) → sideP last (G.map hexD) = some G
  | [], _ => rfl
  | g :: G, h => by
    rw [List.map_cons, sideP, if_neg (fun k => hexD_46 (h g (by simp)) k.2.2), hex16_D (h g (by simp))]
    show (sideP last (G.map hexD)).map _ = _
    rw [sideP_hex last fun x hx => h x (by simp [hx])]; rfl
theorem joinH_ne {g : Nat} {G : List Nat} : joinH (g :: G) ≠ [] := by
  match G with
  | [] => rw [show joinH [g] = hexD g from join_one _ _]; exact hexD_ne g
  | g' :: G =>
    show Lib.join (hexD g :: hexD g' :: G.map hexD) [58] ≠ []
    rw [join_cons]; simp
theorem side_hex (last : Bool) {G : List Nat} (h : ∀ g ∈ G, g < 65536) : side last (joinH G) = some G := by
  unfold side
  match G, h with
  | [], _ => rfl
  | g :: G, h =>
    rw [if_neg joinH_ne]
    unfold joinH
    rw [pieces_join (by simp) (fun p hp => by
      obtain ⟨x, hx, rfl⟩ := List.mem_map.1 hp
      exact hexD_58 (h x hx)), sideP_hex last h]
/-- with the noughts from f to t left out (none, where these are alike) -/
def print6 (G : List Nat) (f t : Nat) : List UInt8 := if f = t then joinH G else joinH (G.take f) ++ 58 :: 58 :: joinH (G.drop t)
theorem parse_print6 {G : List Nat} (hl : G.length = 8) (h : ∀ g ∈ G, g < 65536) {f t : Nat} (hft : f ≤ t) (ht : t ≤ 8) (hz : G = G.take f ++ nulls (t - f) ++ G.drop t) :
    parseA (print6 G f t) = some (true, valG G) := by
  unfold print6 parseA
  by_cases e : f = t
  · rw [if_pos e]
    have h58 : (58 : UInt8) ∈ joinH G := by
      match G, hl with
      | g :: g' :: G, _ =>
        show (58 : UInt8) ∈ Lib.join (hexD g :: hexD g' :: G.map hexD) [58]
        rw [join_cons]; simp
    rw [if_pos h58, cutL_calm (calm_joinH h)]
    simp only [Bool.not_false]
    rw [side_hex true h, show side true [] = some [] from rfl]
    simp [hl, nulls]
  · rw [if_neg e]
    have hA : ∀ g ∈ G.take f, g < 65536 := fun g hg => h g (List.mem_of_mem_take hg)
    have hB : ∀ g ∈ G.drop t, g < 65536 := fun g hg => h g (List.mem_of_mem_drop hg)
    rw [if_pos (by simp), cutL_two (calm_joinH hA)]
    simp only [Bool.not_true]
    rw [side_hex false hA, side_hex true hB]
    simp only
    have l1 : (G.take f).length = f := by simp; omega
    have l2 : (G.drop t).length = 8 - t := by simp; omega
    rw [if_pos (.inl ⟨by trivial, by omega⟩), l1, l2, show 8 - f - (8 - t) = t - f by omega, ← hz]

/-! where the longest row of noughts is -/
def runAt : List Bool → Nat
  | true :: r => runAt r + 1
  | _ => 0
def progRow (z : List Bool) : Nat × Nat := (List.range 8).foldl (fun a i => if a.2 - a.1 < runAt (z.drop i) ∧ 1 < runAt (z.drop i) then (i, i + runAt (z.drop i)) else a) (0, 0)
def refRow (z : List Bool) : Nat × Nat := (List.range 8).foldl (fun a i => if a.2 < runAt (z.drop i) then (i, runAt (z.drop i)) else a) (0, 0)
theorem rows_alike : ∀ a b c d e f g h : Bool, let z := [a, b, c, d, e, f, g, h]; let r := refRow z; let p := progRow z
    p = (if 2 ≤ r.2 then (r.1, r.1 + r.2) else (0, 0)) ∧ p.1 ≤ p.2 ∧ p.2 ≤ 8 ∧ r.1 + r.2 ≤ 8 ∧ (∀ i : Fin 8, p.1 ≤ i.val → i.val < p.2 → z[i.val]? = some true) := by decide +kernel
def zeros (G : List Nat) : List Bool := G.map fun g => g == 0
theorem rows_of {G : List Nat} (hl : G.length = 8) :
    progRow (zeros G) = (if 2 ≤ (refRow (zeros G)).2 then ((refRow (zeros G)).1, (refRow (zeros G)).1 + (refRow (zeros G)).2) else (0, 0)) ∧ (progRow (zeros G)).1 ≤ (progRow (zeros G)).2 ∧ (progRow (zeros G)).2 ≤ 8 ∧ (refRow (zeros G)).1 + (refRow (zeros G)).2 ≤ 8 ∧
      G = G.take (progRow (zeros G)).1 ++ nulls ((progRow (zeros G)).2 - (progRow (zeros G)).1) ++ G.drop (progRow (zeros G)).2 := by
  match G, hl with
  | [a, b, c, d, e, f, g, h], _ =>
    obtain ⟨r1, r2, r3, r4, r5⟩ := rows_alike (a == 0) (b == 0) (c == 0) (d == 0) (e == 0) (f == 0) (g == 0) (h == 0)
    refine ⟨r1, r2, r3, r4, ?_⟩
    generalize hp : progRow (zeros [a, b, c, d, e, f, g, h]) = p at *
    have hp' : progRow [a == 0, b == 0, c == 0, d == 0, e == 0, f == 0, g == 0, h == 0] = p := hp
    rw [hp'] at r2 r3 r5
    obtain ⟨p1, p2⟩ := p
    simp only at r2 r3 r5 ⊢
    apply List.ext_getElem?
    intro i
    rw [List.append_assoc]
    rcases Nat.lt_or_ge i p1 with h1 | h1
    · rw [List.getElem?_append_left (by simp; omega), List.getElem?_take_of_lt h1]
    · rw [List.getElem?_append_right (by simp; omega)]
      have hl1 : ([a, b, c, d, e, f, g, h].take p1).length = p1 := by simp; omega
      rw [hl1]
      rcases Nat.lt_or_ge i p2 with h2 | h2
      · rw [List.getElem?_append_left (by simp [nulls]; omega)]
        have h3 := r5 ⟨i, by omega⟩ h1 h2
        have h4 : (zeros [a, b, c, d, e, f, g, h])[i]? = some true := h3
        simp only [zeros, List.getElem?_map, Option.map_eq_some_iff] at h4
        obtain ⟨x, h5, h6⟩ := h4
        rw [h5, nulls, List.getElem?_replicate, if_pos (by omega)]
        simp at h6; rw [h6]
      · rw [List.getElem?_append_right (by simp [nulls]; omega), List.getElem?_drop]
        congr 1
        simp [nulls]; omega
/-- what the reference has printed ahead of place i, where m noughts from f on are left out -/
def preT (G : List Nat) (f m i : Nat) : List UInt8 := if m < 2 ∨ i ≤ f then joinH (G.take i) else joinH (G.take f) ++ 58 :: 58 :: joinH ((G.take i).drop (f + m))
def sepT (s : List UInt8) : List UInt8 := if s ≠ [] ∧ s.getLast? ≠ some 58 then [58] else []
theorem joinH_last : ∀ {G : List Nat}, (∀ g ∈ G, g < 65536) → (joinH G).getLast? ≠ some 58 := by
  intro G h
  match hG : G.reverse with
  | [] => have : G = [] := by simpa using hG
          subst this; simp [joinH, Lib.join, List.intercalate]
  | g :: l =>
    have e : G = l.reverse ++ [g] := by rw [← List.reverse_reverse G, hG]; simp
    subst e
    rw [joinH_snoc, List.getLast?_append]
    have h1 := hexD_58 (h g (by simp))
    cases hd : (hexD g).getLast? with
    | none => exact absurd (List.getLast?_eq_none_iff.1 hd) (hexD_ne g)
    | some c =>
      simp only [Option.some_or]
      intro hc
      injection hc with hc
      subst hc
      exact h1 (List.mem_of_getLast? hd)
theorem take_next {G : List Nat} {i g : Nat} (hg : G[i]? = some g) : G.take (i + 1) = G.take i ++ [g] := by
  obtain ⟨hi, rfl⟩ := List.getElem?_eq_some_iff.1 hg
  rw [List.take_succ_eq_append_getElem hi]
theorem preT_step {G : List Nat} (h : ∀ g ∈ G, g < 65536) {f m i g : Nat} (hg : G[i]? = some g) (hi : m < 2 ∨ i < f ∨ f + m ≤ i) : preT G f m (i + 1) = preT G f m i ++ sepT (preT G f m i) ++ hexD g := by
  have hA : ∀ g ∈ G.take i, g < 65536 := fun g hg => h g (List.mem_of_mem_take hg)
  have hil : i < G.length := (List.getElem?_eq_some_iff.1 hg).1
  have sj : ∀ A : List Nat, (∀ g ∈ A, g < 65536) → sepT (joinH A) = if A = [] then [] else [58] := by
    intro A hA
    unfold sepT
    match A, hA with
    | [], _ => rfl
    | a :: A, hA => rw [if_pos ⟨joinH_ne, joinH_last hA⟩, if_neg (by simp)]
  unfold preT
  by_cases c : m < 2 ∨ i + 1 ≤ f
  · rw [if_pos c, if_pos (c.imp id fun k => by omega), take_next hg, joinH_snoc, sj _ hA]
  · rw [if_neg c, if_neg (fun k => c (k.imp id fun k => by rcases hi with hi | hi | hi <;> omega)), take_next hg]
    rw [List.drop_append_of_le_length (by simp; omega), joinH_snoc]
    have hB : ∀ g ∈ (G.take i).drop (f + m), g < 65536 := fun g hg => hA g (List.mem_of_mem_drop hg)
    generalize (G.take i).drop (f + m) = B at *
    have e : sepT (joinH (G.take f) ++ 58 :: 58 :: joinH B) = if B = [] then [] else [58] := by
      match B, hB with
      | [], _ =>
        unfold sepT
        rw [if_neg, if_pos rfl]
        rintro ⟨_, k⟩
        apply k
        simp [joinH, Lib.join, List.intercalate]
      | b :: B, hB =>
        unfold sepT
        rw [if_pos, if_neg (by simp)]
        refine ⟨by simp, ?_⟩
        have h1 := joinH_last hB
        have h2 : joinH (b :: B) ≠ [] := joinH_ne
        have h3 : (joinH (G.take f) ++ 58 :: 58 :: joinH (b :: B)).getLast? = (joinH (b :: B)).getLast? := by
          rw [List.getLast?_append]
          cases hj : joinH (b :: B) with
          | nil => exact absurd hj h2
          | cons y r => simp [List.getLast?_cons]
        rw [h3]; exact h1
    rw [e]
    simp
theorem preT_skip {G : List Nat} {f m : Nat} (h2 : 2 ≤ m) (hl : f + m ≤ G.length) : preT G f m (f + m) = preT G f m f ++ [58, 58] := by
  unfold preT
  rw [if_neg (by omega), if_pos (.inr (Nat.le_refl _))]
  rw [List.drop_of_length_le (by simp; omega)]
  simp [joinH, Lib.join, List.intercalate]
theorem preT_end {G : List Nat} (hl : G.length = 8) {f m : Nat} (hf : f + m ≤ 8) : preT G f m 8 = if 2 ≤ m then print6 G f (f + m) else print6 G 0 0 := by
  unfold preT print6
  by_cases h2 : 2 ≤ m
  · rw [if_neg (by omega), if_pos h2, if_neg (by omega), ← hl, List.take_length]
  · rw [if_pos (.inl (by omega)), if_neg h2, if_pos rfl, ← hl, List.take_length]
/-- the program's text is the reference's -/
theorem print_alike {G : List Nat} (hl : G.length = 8) : preT G (refRow (zeros G)).1 (refRow (zeros G)).2 8 = print6 G (progRow (zeros G)).1 (progRow (zeros G)).2 := by
  obtain ⟨r1, _, _, r4, _⟩ := rows_of hl
  rw [preT_end hl r4, r1]
  by_cases h2 : 2 ≤ (refRow (zeros G)).2
  · rw [if_pos h2, if_pos h2]
  · rw [if_neg h2, if_neg h2]
theorem parse_long {G : List Nat} (hl : G.length = 8) (h : ∀ g ∈ G, g < 65536) : parseA (print6 G (progRow (zeros G)).1 (progRow (zeros G)).2) = some (true, valG G) := by
  obtain ⟨_, r2, r3, _, r5⟩ := rows_of hl
  exact parse_print6 hl h r2 r3 r5
end Go.Proofs.YtgdgklibilddgaaDoor
