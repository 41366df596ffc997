/- BitmapTakes walked. -/
import Derived.Test.YtnhaejbakgjelaaDoorBmDp
import Derived.Test.YtnhaejbakgjelaaDoorBmBytes
namespace Go.Proofs.YtnhaejbakgjelaaDoor
open Go.RowKit

/-- the acts that came in -/
def Acts (w : World) (p : Option Addr) (len : Nat) : Prop := ∀ i, i < len → ∃ (a : Addr) (K A B : Int), p = some a ∧ a.block < w.heap.size ∧
  w.cell? (a.add (i * 3)) = some (.int .i64 K) ∧ w.cell? ⟨(a.add (i * 3)).block, (a.add (i * 3)).off + 1, none⟩ = some (.int .i64 A) ∧ w.cell? ⟨(a.add (i * 3)).block, (a.add (i * 3)).off + 2, none⟩ = some (.int .i64 B)
theorem add_block (a : Addr) (k : Nat) : (a.add k).block = a.block := by unfold Addr.add; split <;> rfl
theorem Acts.after {w w' : World} {p : Option Addr} {len : Nat} (h : Acts w p len) (hb : Below w.heap.size w w') : Acts w' p len := by
  intro i hi
  obtain ⟨a, K, A, B, e, hl, h1, h2, h3⟩ := h i hi
  have hs := hb.size
  exact ⟨a, K, A, B, e, by omega, (hb.cell (by rw [add_block]; exact hl)).trans h1, (hb.cell (by show (a.add (i * 3)).block < _; rw [add_block]; exact hl)).trans h2, (hb.cell (by show (a.add (i * 3)).block < _; rw [add_block]; exact hl)).trans h3⟩
theorem n_small (n : Int) : ∃ N : Nat, wrap64 ((IntKind.u64.wrap n).tmod 300) = (N : Int) ∧ N < 300 := by
  have h := Int.emod_nonneg n (show (18446744073709551616 : Int) ≠ 0 by decide)
  have e : IntKind.u64.wrap n = n % 18446744073709551616 := rfl
  rw [e, Int.tmod_eq_emod_of_nonneg h]
  refine ⟨(n % 18446744073709551616 % 300).toNat, ?_, by omega⟩
  unfold wrap64
  omega
theorem cnt_upd {f : Nat → Bool} {x n : Nat} (hx : x < n) (hf : f x = false) : cnt (upd f x true) 0 n = cnt f 0 n + 1 := by
  rw [show n = x + (1 + (n - (x + 1))) from by omega, cnt_join, cnt_join, cnt_join f, cnt_join f]
  have e1 : cnt (upd f x true) 0 x = cnt f 0 x := cnt_congr fun y _ h => if_neg (by omega)
  have e2 : cnt (upd f x true) (0 + x + 1) (n - (x + 1)) = cnt f (0 + x + 1) (n - (x + 1)) := cnt_congr fun y h _ => if_neg (by omega)
  rw [e1, e2]
  simp [cnt, upd, hf]
  omega
theorem cnt_full {f : Nat → Bool} {n : Nat} (h : cnt f 0 n = n) : ∀ x, x < n → f x = true := by
  intro x hx
  rcases hf : f x with _ | _
  · have := cnt_upd hx hf
    have := cnt_le (upd f x true) 0 n
    omega
  · rfl
theorem upd_over {f h : Nat → Bool} {x : Nat} (k : ∀ y, f y = true → h y = true) : ∀ y, f y = true → upd h x true y = true := by
  intro y hy
  unfold upd
  by_cases e : y = x
  · rw [if_pos e]
  · rw [if_neg e]; exact k y hy
/-- so many have been put behind the first ones -/
structure Put (w0 w : World) (g c rg rc n : Nat) (f : Nat → Bool) (fk : Nat → Bool) (t : Nat) : Prop where
  map : MapAt w g c n fk
  ref : RefAt w rg rc n f
  below : Below w0.heap.size w0 w
  c0 : w0.heap.size ≤ c
  over : ∀ y, f y = true → fk y = true
  many : cnt fk 0 n = cnt f 0 n + t
theorem Put.start {w0 w : World} {g c rg rc n : Nat} {f : Nat → Bool} (h : Both w0 w g c rg rc n f) : Put w0 w g c rg rc n f f 0 := ⟨h.map, h.ref, h.below, h.c0, fun _ h => h, rfl⟩
theorem Put.after {w0 w w' : World} {g c rg rc n : Nat} {f fk : Nat → Bool} {t : Nat} (h : Put w0 w g c rg rc n f fk t) (hb : Below w.heap.size w w') : Put w0 w' g c rg rc n f fk t :=
  ⟨h.map.after hb, h.ref.after hb, bl_trans h.below hb, h.c0, h.over, h.many⟩
theorem Put.next {w0 w w' : World} {g c rg rc n : Nat} {f fk : Nat → Bool} {t x : Nat} (h : Put w0 w g c rg rc n f fk t) (hx : x < n) (hf : fk x = false) (hm : MapAt w' g c n (upd fk x true)) (hg : w.grownBy w' (some c)) : Put w0 w' g c rg rc n f (upd fk x true) (t + 1) := by
  obtain ⟨a1, a2, a3, a4⟩ := h.map.apart h.ref
  exact ⟨hm, h.ref.grown hg (some_ne a3.symm) (some_ne a4.symm), bl_grown h.below hg h.c0, h.c0, upd_over h.over, by rw [cnt_upd hx hf, h.many]; omega⟩
set_option maxRecDepth 100000 in
theorem takes (w : World) (p : Option Addr) (len cap : Nat) (n from_ : Int) (hT : Tab w) (hA : Acts w p len) (hlen : len ≤ 9223372036854775807) :
    Calls Tryd.prog 5 #[.int .i64 n, .slice p len cap, .int .i64 from_] w (fun e w' => e = .returned (.bool true) ∧ Below w.heap.size w w') := by
  go_enter Tryd.func5, Tryd.ntmps5
  go_wp2_with fail
  refine (awake_c _ hT).mono ?_
  rintro e w1 ⟨rfl, hb1⟩
  go_wp2_with fail
  obtain ⟨N, hN, hNlt⟩ := n_small n
  rw [hN]
  generalize (IntKind.u64.wrap n).tmod 300 = U1 at *
  generalize IntKind.u64.wrap n = U2 at *
  clear hN
  refine (new_c N _ (by omega)).mono ?_
  rintro e w2 ⟨rfl, hm, hb2'⟩
  have hcl : w.heap.size ≤ w1.heap.size := hb1.size
  have hb2 := bl_trans hb1 hb2'
  have hcs := hb2'.size
  clear hb2'
  have hgl : w.heap.size ≤ w1.heap.size + 1 := by omega
  generalize w1.heap.size + 1 = g at *
  generalize w1.heap.size = c at *
  go_wp2_with fail
  refine (rnew_c N _ (by omega)).mono ?_
  rintro e w3 ⟨rfl, hr, hb3'⟩
  have hm3 := hm.after hb3'
  have hb3 := bl_trans hb2 hb3'
  have hrl : w.heap.size ≤ w2.heap.size := hb2.size
  have hrgl : w.heap.size ≤ w2.heap.size + 1 := by omega
  have hB : Both w w3 g c (w2.heap.size + 1) w2.heap.size N (fun _ => false) := ⟨hm3, hr, hb3, hgl, hcl, hrgl, hrl⟩
  clear hb3' hm hr hm3 hb3 hgl hcl hrgl hrl hcs
  generalize w2.heap.size + 1 = rg at *
  generalize w2.heap.size = rc at *
  clear hb1 hb2
  go_wp2_with fail
  go_loopw [7, 11] (fun m i wr => ∃ (k g c : Nat) (f : Nat → Bool), k ≤ 60 ∧ i = .int .i64 k ∧ m = .pointer (some ⟨g, 0, none⟩) ∧ Both w wr g c rg rc N f) (fun _ i _ => 60 - (intOf i).toNat)
  case atStart => exact ⟨0, g, c, _, by omega, rfl, rfl, hB⟩
  case round =>
    clear hB
    obtain ⟨k, g1, c1, f, hk, rfl, rfl, hB⟩ := hrel
    by_cases hgo : k < len ∧ k < 60
    · have dk : decide (k < len) = true := decide_eq_true hgo.1
      have dk2 : decide (k < 60) = true := decide_eq_true hgo.2
      obtain ⟨a, K, A, B, rfl, hab, k0, k1, k2⟩ := (hA.after hB.below) k hgo.1
      go_wp2_with fail
      refine (does_c g1 c1 rg rc N f K A B w _ hB).mono ?_
      rintro e w4 ⟨g2, c2, f2, rfl, hB2⟩
      clear k0 k1 k2 hB
      go_wp2_with fail
      go_roundw
      case rel => exact ⟨k + 1, g2, c2, f2, by omega, by go_num, rfl, hB2⟩
      case measure => simp [intOf]; omega
    · have hT1 := hT.after hT.lt hB.below
      have hP := Put.start hB
      have hcl := cnt_le f 0 N
      obtain ⟨F, hF⟩ : ∃ F, cnt f 0 N + F = N := ⟨N - cnt f 0 N, by omega⟩
      have hce : cnt f 0 (64 * ((N + 63) / 64)) = cnt f 0 N := cnt_top hB.map.top (by omega)
      have hsub : (N : Int) - (cnt f 0 N : Nat) = (F : Int) := by omega
      have HCE := Lib.hid hce
      clear hce
      have hstop : (decide (k < len) = false) ∨ (decide (k < len) = true ∧ decide ((k : Int) < 60) = false) := by
        by_cases h1 : k < len
        · exact .inr ⟨decide_eq_true h1, decide_eq_false fun h2 => hgo ⟨h1, by omega⟩⟩
        · exact .inl (decide_eq_false h1)
      have hN2 := hB.map.small
      rcases hstop with dk | ⟨dk, dk2⟩
      all_goals
        go_wp2_with fail
        refine (count_c g1 c1 N _ f _ hB.map HCE.out).mono ?_
        rintro e w4 ⟨rfl, rfl⟩
        go_wp2_with fail
        clear hB hcl hgo HCE
        go_loopw [2, 15] (fun fr t wr => ∃ (t' : Nat) (a : Int) (fk : Nat → Bool), t' ≤ F ∧ fr = .int .i64 a ∧ t = .int .i64 t' ∧ Put w wr g1 c1 rg rc N f fk t' ∧ Tab wr) (fun _ t _ => F - (intOf t).toNat)
        case atStart => exact ⟨0, from_, f, by omega, rfl, rfl, hP, hT1⟩
        case round =>
          clear hP hT1
          obtain ⟨t, a, fk, ht, rfl, rfl, hP, hT1⟩ := hrel
          by_cases hlt : t < F
          · have dt : decide (t < F) = true := decide_eq_true hlt
            go_wp2_with fail
            refine (next_c g1 c1 N fk a _ hP.map hT1).mono ?_
            rintro e w5 ⟨x, b, rfl, hx1, hx2, hb5⟩
            have hP5 := hP.after hb5
            have hT5 := hT1.after hT1.lt hb5
            clear hP hT1 hb5
            cases b
            · exfalso
              have h1 := cnt_all (f := fk) (a := 0) (n := N) fun y _ h => (hx2 rfl).2 y (by omega)
              have h2 := hP5.many
              omega
            · obtain ⟨hxN, hxf, _⟩ := hx1 rfl
              clear hx1 hx2
              have hxr : f x = false := by
                rcases hq : f x with _ | _
                · rfl
                · rw [hP5.over x hq] at hxf; cases hxf
              go_wp2_with fail
              have hrh := rhas_yes rg rc N f x _ hP5.ref hxN
              rw [hxr] at hrh
              refine hrh.mono ?_
              rintro e w6 ⟨rfl, rfl⟩
              clear hrh
              go_wp2_with fail
              refine (put_c g1 c1 N fk x _ hP5.map hxN hxf).mono ?_
              rintro e w7 ⟨rfl, hm7, hg7⟩
              have hP7 := hP5.next hxN hxf hm7 hg7
              have hT7 : Tab w7 := hT.after hT.lt hP7.below
              clear hP5 hT5 hm7 hg7
              go_wp2_with fail
              go_roundw
              case rel => exact ⟨t + 1, x, _, by omega, rfl, by go_num, hP7, hT7⟩
              case measure => simp [intOf]; omega
          · have dt : decide (t < F) = false := decide_eq_false hlt
            obtain rfl : t = F := by omega
            have hall : cnt fk 0 N = N := by rw [hP.many]; exact hF
            have HALL := Lib.hid hall
            clear hall hF
            go_wp2_with fail
            refine (next_c g1 c1 N fk a _ hP.map hT1).mono ?_
            rintro e w5 ⟨x, b, rfl, hx1, hx2, hb5⟩
            have hP5 := hP.after hb5
            cases b
            · have hce : cnt fk 0 (64 * ((N + 63) / 64)) = N := (cnt_top hP5.map.top (by omega)).trans HALL.out
              have HCE := Lib.hid hce
              clear hx1 hx2 hce hP hT1 hb5
              go_wp2_with fail
              refine (count_c g1 c1 N N fk _ hP5.map HCE.out).mono ?_
              rintro e w6 ⟨rfl, rfl⟩
              go_wp2_with fail
              go_ret
              exact ⟨rfl, hP5.below⟩
            · exfalso
              obtain ⟨q1, q2, _⟩ := hx1 rfl
              rw [cnt_full HALL.out x q1] at q2
              cases q2
end Go.Proofs.YtnhaejbakgjelaaDoor
