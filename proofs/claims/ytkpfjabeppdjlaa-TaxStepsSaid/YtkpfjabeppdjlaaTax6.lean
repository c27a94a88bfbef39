/- Contracts of the reference of layer 21: Check, Takes, Scaled. -/
import Derived.Test.YtkpfjabeppdjlaaTax5
namespace Go.Proofs.Ytkpfjabeppdjlaa
open Go.RowKit

set_option maxRecDepth 100000 in
set_option maxHeartbeats 1000000 in
theorem ref21_Check (t : List (Int × Int)) (A : Option Addr) (cap : Nat) (w : World) (hcap : t.length ≤ 9223372036854775807) (hs : Sl encBand 2 w w.heap.size A t) :
    Calls Try.prog 21 #[.slice A t.length cap] w fun e w' => e = .returned (.int .i64 (chkE t)) ∧ Below w.heap.size w w' := by
  by_cases h64 : 64 < t.length
  · go_enter Try.func21, Try.ntmps21
    go_wp2
    go_ret
    exact ⟨ret_int (by simp [chkE, h64]), Below.refl _ _⟩
  go_enter Try.func21, Try.ntmps21
  go_wp2
  go_loopw [3] (fun i wr => ∃ k : Nat, k ≤ t.length ∧ i = .int .i64 k ∧ (∀ j, j < k → badAt t j = 0) ∧ Below w.heap.size w wr) (fun i _ => t.length - (intOf i).toNat)
  case atStart => exact ⟨0, Nat.zero_le _, rfl, fun _ h => absurd h (by omega), Below.refl _ _⟩
  case round =>
    obtain ⟨k, hk, rfl, hz, hb⟩ := hrel
    by_cases hlt : k < t.length
    · obtain ⟨b, off, rfl, hB, hc⟩ := hs (by intro h; simp [h] at hlt)
      have HZ := Lib.hid hz
      clear hz
      obtain ⟨x, y, hxy⟩ : ∃ x y, t[k]? = some (x, y) := ⟨_, _, List.getElem?_eq_getElem hlt⟩
      have C0 : wr.cell? ⟨b, off + k * 2, none⟩ = some (.int .i64 x) := (hb.cell hB).trans (by simpa using hc k _ hxy 0 _ rfl)
      have C1 : wr.cell? ⟨b, off + k * 2 + 1, none⟩ = some (.int .i64 y) := (hb.cell hB).trans (hc k _ hxy 1 _ rfl)
      by_cases h0 : k = 0
      · subst h0
        have c0 : wr.cell? ⟨b, off, none⟩ = some (.int .i64 x) := by simpa using C0
        have c1 : wr.cell? ⟨b, off + 1, none⟩ = some (.int .i64 y) := by simpa using C1
        have HX := Lib.hid (bad0 hxy)
        clear hxy C0 C1 hc hs
        by_cases hx0 : x = 0
        · have hx1 : (x != 0) = false := by simp [hx0]
          have HX0 := Lib.hid hx0
          clear hx0
          go_wp2
          go_quiet (fail)
          go_wp2
          all_goals first
            | (go_ret; exact ⟨ret_int (chk_bad h64 HZ.out hlt (HX.out.2.1 HX0.out (by omega)) (by omega)), below_dN hb _⟩)
            | exact ⟨⟨1, by omega, rfl, bad_more HZ.out (HX.out.2.2 HX0.out (by have := HX0.out; omega)), below_dN hb _⟩, by simp [intOf]; omega⟩
        · have hx1 : (x != 0) = true := by simp [hx0]
          have HX0 := Lib.hid hx0
          clear hx0
          go_wp2
          go_quiet (fail)
          go_wp2
          go_ret
          exact ⟨ret_int (chk_bad h64 HZ.out hlt (HX.out.1 HX0.out) (by omega)), below_dN hb _⟩
      · have hp : decide (0 < k) = true := by simp; omega
        obtain ⟨x', y', hxy'⟩ : ∃ x y, t[k-1]? = some (x, y) := ⟨_, _, List.getElem?_eq_getElem (by omega)⟩
        have cm : wr.cell? ⟨b, off + (k - 1) * 2, none⟩ = some (.int .i64 x') := (hb.cell hB).trans (by simpa using hc (k - 1) _ hxy' 0 _ rfl)
        have hk1 : 1 ≤ k := by omega
        have HX := Lib.hid (badS hxy hxy' hk1)
        have k0 : ((k : Int) == 0) = false := by simp; omega
        clear hxy hxy' hc hs
        have hk2 : (0 : Int) ≤ (k : Int) - 1 := by omega
        have hk3 : (k : Int) - 1 < (t.length : Int) := by omega
        have hk4 : ((k : Int) - 1).toNat = k - 1 := by omega
        have hk5 : IntKind.i64.wrap ((k : Int) - 1) = (k : Int) - 1 := IntWalk.i64_in _ (by omega)
        clear h0
        go_wp2
        go_quiet (fail)
        go_wp2
        all_goals first
          | (go_ret; exact ⟨ret_int (chk_bad h64 HZ.out hlt (HX.out.1 (by omega)) (by omega)), below_dN hb _⟩)
          | (go_ret; exact ⟨ret_int (chk_bad h64 HZ.out hlt (HX.out.2.1 (by omega) (by omega)) (by omega)), below_dN hb _⟩)
          | exact ⟨⟨k + 1, by omega, by go_num, bad_more HZ.out (HX.out.2.2 (by omega) (by omega)), below_dN hb _⟩, by simp [intOf]; omega⟩
    · have HZ := Lib.hid hz
      clear hz
      go_wp2
      go_ret
      exact ⟨ret_int (chk_ok h64 HZ.out (by omega)), hb⟩

/-- Up to where the first k bands go. -/
def limK (x d : Int) (t : List (Int × Int)) (k : Nat) : Int := if k < t.length then min x (bF t k * d) else x
theorem tot_succ (x d : Int) (t : List (Int × Int)) (k : Nat) : tot x d t (k + 1) = if bF t k * d < bTo x d t k then tot x d t k + bR t k * (bTo x d t k - bF t k * d) else tot x d t k := by
  unfold tot
  rw [show ylds x d t (k + 1) = if bF t k * d < bTo x d t k then ylds x d t k ++ [(bR t k, bTo x d t k - bF t k * d)] else ylds x d t k from rfl]
  split
  · rw [sumP_append]; simp [sumP]
  · rfl
theorem tot_lim {x d : Int} {t : List (Int × Int)} (ht : Right t) (hx : 0 ≤ x) (hd : 1 ≤ d) : ∀ k, k ≤ t.length → tot x d t k ≤ 1000000 * limK x d t k ∧ limK x d t k ≤ x ∧ 0 ≤ limK x d t k := by
  intro k
  induction k with
  | zero =>
    intro _
    have h0 : tot x d t 0 = 0 := rfl
    rw [h0]
    unfold limK
    split
    · rename_i h
      have := Int.mul_nonneg (ht.from0 0 h) (show 0 ≤ d by omega)
      omega
    · omega
  | succ k ih =>
    intro hk
    have hf := Int.mul_nonneg (ht.from0 k (by omega)) (show 0 ≤ d by omega)
    obtain ⟨h1, h2, h3⟩ := ih (by omega)
    rw [tot_succ]
    have hr0 := ht.low k (by omega)
    have hr1 := ht.high k (by omega)
    unfold limK at h1 h2 h3 ⊢
    rw [if_pos (by omega)] at h1 h2 h3
    unfold bTo
    by_cases hlt : k + 1 < t.length
    · have hup := mul_up (ht.rise k hlt) hd
      rw [if_pos hlt]
      split
      · rename_i hy
        have := Int.mul_le_mul_of_nonneg_right hr1 (show 0 ≤ min x (bF t (k + 1) * d) - bF t k * d by omega)
        omega
      · omega
    · rw [if_neg hlt]
      split
      · rename_i hy
        have := Int.mul_le_mul_of_nonneg_right hr1 (show 0 ≤ x - bF t k * d by omega)
        omega
      · omega
theorem tot_le {x d : Int} {t : List (Int × Int)} (ht : Right t) (hx : 0 ≤ x) (hd : 1 ≤ d) (k : Nat) (hk : k ≤ t.length) : tot x d t k ≤ 1000000 * x := by
  have := tot_lim (x := x) (d := d) ht hx hd k hk
  omega
theorem bF_up {t : List (Int × Int)} (ht : Right t) : ∀ m k, k + m < t.length → bF t k ≤ bF t (k + m) := by
  intro m
  induction m with
  | zero => intro k _; exact Int.le_refl _
  | succ m ih => intro k hk; have h1 := ih k (by omega); have h2 := ht.rise (k + m) hk; rw [show k + (m + 1) = k + m + 1 by omega]; omega
theorem tot_stop {x d : Int} {t : List (Int × Int)} (ht : Right t) (hd : 1 ≤ d) {k : Nat} (hx : x ≤ bF t k * d) : ∀ m, k + m ≤ t.length → tot x d t (k + m) = tot x d t k := by
  intro m
  induction m with
  | zero => intro _; rfl
  | succ m ih =>
    intro hk
    rw [show k + (m + 1) = k + m + 1 by omega, tot_succ, if_neg, ih (by omega)]
    have h1 := bF_up ht m k (by omega)
    have h2 : bF t k * d ≤ bF t (k + m) * d := Int.mul_le_mul_of_nonneg_right h1 (by omega)
    unfold bTo
    split <;> omega

theorem take_nums (W R n r : Int) (hn0 : 0 < n) (hn : n ≤ 450359962737049600) (hr0 : 0 ≤ r) (hr1 : r ≤ 1000000) :
    0 ≤ n / 1000000 * r ∧ n / 1000000 * r ≤ 450359962737049600 ∧ 0 ≤ n % 1000000 * r ∧ n % 1000000 * r ≤ 1000000000000 ∧
    (W + n / 1000000 * r + n % 1000000 * r / 1000000) * 1000000 + (R + n % 1000000 * r % 1000000) = W * 1000000 + R + r * n := by
  have d1 := Int.ediv_nonneg (show 0 ≤ n by omega) (show (0 : Int) ≤ 1000000 by omega)
  have b1 := Int.emod_nonneg n (show (1000000 : Int) ≠ 0 by omega)
  have b2 := Int.emod_lt_of_pos n (show (0 : Int) < 1000000 by omega)
  have e1 := Int.mul_ediv_add_emod n 1000000
  have h1 : n / 1000000 * r ≤ n / 1000000 * 1000000 := Int.mul_le_mul_of_nonneg_left (by omega) d1
  have h2 : n % 1000000 * r ≤ 1000000 * 1000000 := Int.mul_le_mul (by omega) hr1 hr0 (by omega)
  have h3 : r * n = 1000000 * (n / 1000000 * r) + n % 1000000 * r := by
    have : r * n = r * (1000000 * (n / 1000000) + n % 1000000) := by rw [e1]
    rw [this, Int.mul_add, ← Int.mul_assoc r 1000000, Int.mul_comm r 1000000, Int.mul_assoc 1000000 r, Int.mul_comm r (n / 1000000), Int.mul_comm r (n % 1000000)]
  refine ⟨Int.mul_nonneg d1 hr0, by omega, Int.mul_nonneg b1 hr0, by omega, ?_⟩
  rw [h3]
  omega

set_option maxRecDepth 100000 in
set_option maxHeartbeats 1000000 in
theorem ref21_Takes (x d : Int) (t : List (Int × Int)) (A : Option Addr) (cap : Nat) (w : World) (ht : Right t) (hx0 : 0 ≤ x) (hx : x ≤ 450359962737049600) (hd0 : 1 ≤ d) (hd : d ≤ 400) (hs : Sl encBand 2 w w.heap.size A t) :
    Calls Try.prog 25 #[.int .i64 x, .int .i64 d, .slice A t.length cap] w fun e w' =>
      e = .returned (.tuple #[.int .i64 (tot x d t t.length / 1000000), .int .i64 (tot x d t t.length % 1000000)]) ∧ w = w' := by
  have hl64 := ht.len
  go_enter Try.func25, Try.ntmps25
  go_wp2
  go_loop [8, 9, 10] (fun wh rs i => ∃ (k : Nat) (W R : Int), k ≤ t.length ∧ wh = .int .i64 W ∧ rs = .int .i64 R ∧ i = .int .i64 k ∧ W * 1000000 + R = tot x d t k ∧ 0 ≤ W ∧ 0 ≤ R ∧ R ≤ 1000000 * (k : Int)) (fun _ _ i => t.length - (intOf i).toNat)
  case atStart => exact ⟨0, 0, 0, Nat.zero_le _, rfl, rfl, rfl, rfl, by omega, by omega, by omega⟩
  case round =>
    obtain ⟨k, W, R, hk, rfl, rfl, rfl, hT, hW, hR0, hR⟩ := hrel
    have hle := tot_le ht hx0 hd0 k hk
    have hWx : W ≤ 450359962737049600 := by omega
    by_cases hlt : k < t.length
    · obtain ⟨b, off, rfl, hB, hc⟩ := hs (by intro h; simp [h] at hlt)
      have hx1 := List.getElem?_eq_getElem hlt
      have h1 : bF t k = t[k].1 := by simp [bF, List.getD, hx1]
      have h2 : bR t k = t[k].2 := by simp [bR, List.getD, hx1]
      have C0 : w.cell? ⟨b, off + k * 2, none⟩ = some (.int .i64 (bF t k)) := by rw [h1]; simpa using hc k _ hx1 0 _ rfl
      have C1 : w.cell? ⟨b, off + k * 2 + 1, none⟩ = some (.int .i64 (bR t k)) := by rw [h2]; simpa using hc k _ hx1 1 _ rfl
      clear h1 h2 hx1
      have hm0 := mul_bd (ht.from0 k hlt) (ht.most k hlt) hd0 hd
      have hr0 := ht.low k hlt
      have hr1 := ht.high k hlt
      by_cases hbr : x ≤ bF t k * d
      · have HF : Hid (tot x d t t.length = W * 1000000 + R) := by
          have := tot_stop ht hd0 hbr (t.length - k) (by omega)
          rw [show k + (t.length - k) = t.length by omega] at this
          rw [this]; exact hT.symm
        clear hT hc hs
        generalize bF t k = f at *
        go_wp2
        go_ret2
        exact ⟨ret_two (by have := HF.out; omega) (by have := HF.out; omega), rfl⟩
      · have HTT := Lib.hid hT
        have HS := Lib.hid (tot_succ x d t k)
        by_cases h1 : k + 1 < t.length
        · have hx2 := List.getElem?_eq_getElem h1
          have h2 : bF t (k + 1) = t[k + 1].1 := by simp [bF, List.getD, hx2]
          have C2 : w.cell? ⟨b, off + (k + 1) * 2, none⟩ = some (.int .i64 (bF t (k + 1))) := by rw [h2]; simpa using hc (k + 1) _ hx2 0 _ rfl
          clear h2 hx2 hc hs hT
          have hm1 := mul_bd (ht.from0 (k + 1) h1) (ht.most (k + 1) h1) hd0 hd
          have hfg := mul_up (ht.rise k h1) hd0
          have HT := Lib.hid (show bTo x d t k = min x (bF t (k + 1) * d) by unfold bTo; rw [if_pos h1])
          generalize bTo x d t k = to at *
          generalize bF t k = f at *
          generalize bF t (k + 1) = g at *
          generalize bR t k = r at *
          have hk1 : ((k : Int) + 1) < (t.length : Int) := by omega
          by_cases hgx : g * d < x
          · obtain ⟨n1, n2, n3, n4, n5⟩ := take_nums W R (g * d - f * d) r (by omega) (by omega) hr0 hr1
            have HN := Lib.hid n5
            clear n5
            have HF : Hid (W * 1000000 + R + r * (g * d - f * d) = tot x d t (k + 1)) := by
              show _ = _
              rw [HS.out, if_pos (by rw [HT.out]; omega), ← HTT.out, HT.out]
              first | done | (congr 2; omega)
            go_wp2
            go_round
            case rel => exact ⟨k + 1, _, _, by omega, rfl, rfl, by go_num, by rw [← HF.out, ← HN.out], by omega, by omega, by omega⟩
            case measure => simp [intOf]; omega
          · obtain ⟨n1, n2, n3, n4, n5⟩ := take_nums W R (x - f * d) r (by omega) (by omega) hr0 hr1
            have HN := Lib.hid n5
            clear n5
            have HF : Hid (W * 1000000 + R + r * (x - f * d) = tot x d t (k + 1)) := by
              show _ = _
              rw [HS.out, if_pos (by rw [HT.out]; omega), ← HTT.out, HT.out]
              first | done | (congr 2; omega)
            go_wp2
            go_round
            case rel => exact ⟨k + 1, _, _, by omega, rfl, rfl, by go_num, by rw [← HF.out, ← HN.out], by omega, by omega, by omega⟩
            case measure => simp [intOf]; omega
        · have hk1 : ¬ ((k : Int) + 1) < (t.length : Int) := by omega
          clear hc hs hT
          have HT := Lib.hid (show bTo x d t k = x by unfold bTo; rw [if_neg h1])
          generalize bTo x d t k = to at *
          generalize bF t k = f at *
          generalize bR t k = r at *
          obtain ⟨n1, n2, n3, n4, n5⟩ := take_nums W R (x - f * d) r (by omega) (by omega) hr0 hr1
          have HN := Lib.hid n5
          clear n5
          have HF : Hid (W * 1000000 + R + r * (x - f * d) = tot x d t (k + 1)) := by
            show _ = _
            rw [HS.out, if_pos (by rw [HT.out]; omega), ← HTT.out, HT.out]
            first | done | (congr 2; omega)
          go_wp2
          go_round
          case rel => exact ⟨k + 1, _, _, by omega, rfl, rfl, by go_num, by rw [← HF.out, ← HN.out], by omega, by omega, by omega⟩
          case measure => simp [intOf]; omega
    · obtain rfl : k = t.length := by omega
      have HF := Lib.hid hT
      clear hT
      go_wp2
      go_ret2
      exact ⟨ret_two (by have := HF.out; omega) (by have := HF.out; omega), rfl⟩

theorem part_nums (T n : Int) (hT0 : 0 ≤ T) (hn0 : 1 ≤ n) (hn : n ≤ 400) :
    0 ≤ T / 1000000 ∧ 0 ≤ T / 1000000 / n ∧ T / 1000000 / n ≤ T / 1000000 ∧ 0 ≤ T / 1000000 % n ∧ T / 1000000 % n < n ∧ T / (n * 1000000) = T / 1000000 / n ∧ T % (n * 1000000) = T / 1000000 % n * 1000000 + T % 1000000 := by
  have e1 := Int.mul_ediv_add_emod T 1000000
  have e2 := Int.mul_ediv_add_emod (T / 1000000) n
  have b1 := Int.emod_nonneg T (show (1000000 : Int) ≠ 0 by omega)
  have b2 := Int.emod_lt_of_pos T (show (0 : Int) < 1000000 by omega)
  have b3 := Int.emod_nonneg (T / 1000000) (show n ≠ 0 by omega)
  have b4 := Int.emod_lt_of_pos (T / 1000000) (show 0 < n by omega)
  have d1 := Int.ediv_nonneg hT0 (show (0 : Int) ≤ 1000000 by omega)
  have d2 := Int.ediv_nonneg d1 (show 0 ≤ n by omega)
  have d3 := Int.ediv_le_self n d1
  have hk : T / 1000000 % n * 1000000 + T % 1000000 + n * 1000000 * (T / 1000000 / n) = T := by
    have : n * 1000000 * (T / 1000000 / n) = n * (T / 1000000 / n) * 1000000 := by rw [Int.mul_assoc, Int.mul_comm 1000000, ← Int.mul_assoc]
    rw [this]; omega
  have hu := (Int.ediv_emod_unique (a := T) (b := n * 1000000) (r := T / 1000000 % n * 1000000 + T % 1000000) (q := T / 1000000 / n) (by omega)).2 ⟨hk, by omega, by omega⟩
  exact ⟨d1, d2, d3, b3, b4, hu.1, hu.2⟩

set_option maxRecDepth 100000 in
set_option maxHeartbeats 1000000 in
theorem ref21_Scaled (x d n : Int) (t : List (Int × Int)) (A : Option Addr) (cap : Nat) (w : World) (ht : Right t) (hx0 : 0 ≤ x) (hx : x ≤ 450359962737049600) (hd0 : 1 ≤ d) (hd : d ≤ n) (hn : n ≤ 400) (hs : Sl encBand 2 w w.heap.size A t) :
    Calls Try.prog 22 #[.int .i64 x, .int .i64 d, .int .i64 n, .slice A t.length cap] w fun e w' =>
      e = .returned (.tuple #[.int .i64 (scaledV (tot x d t t.length) n).1, .int .i64 (scaledV (tot x d t t.length) n).2]) ∧ Below w.heap.size w w' := by
  have hT0 := tot_nonneg (x := x) (d := d) ht t.length (Nat.le_refl _)
  have hT1 := tot_le ht hx0 hd0 t.length (Nat.le_refl _)
  have HC := Lib.hid (fun W => ref21_Takes x d t A cap W ht hx0 hx hd0 (by omega))
  have HF := Lib.hid (show scaledV (tot x d t t.length) n = if 1125899906842624 < tot x d t t.length / (n * 1000000) + (if n * 1000000 - tot x d t t.length % (n * 1000000) ≤ tot x d t t.length % (n * 1000000) then 1 else 0) then (0, 9) else (tot x d t t.length / (n * 1000000) + (if n * 1000000 - tot x d t t.length % (n * 1000000) ≤ tot x d t t.length % (n * 1000000) then 1 else 0), 0) from rfl)
  generalize tot x d t t.length = T at *
  obtain ⟨p1, p2, p3, p4, p5, p6, p7⟩ := part_nums T n hT0 (by omega) hn
  have hr0 := Int.emod_nonneg T (show (1000000 : Int) ≠ 0 by omega)
  have hr1 := Int.emod_lt_of_pos T (show (0 : Int) < 1000000 by omega)
  have hW : T / 1000000 ≤ 450359962737049600 := by omega
  rw [p6, p7] at HF
  clear p6 p7 hT0 hT1
  generalize T / 1000000 = W at *
  generalize T % 1000000 = R at *
  have g1 : W.tmod n = W % n := Int.tmod_eq_emod_of_nonneg p1
  have g2 : IntKind.i64.wrap (W.tdiv n) = W / n := IntWalk.i64_quo _ _ (by omega)
  have g3 : ¬ n = 0 := by omega
  generalize W / n = q at *
  generalize W % n = l at *
  go_enter Try.func22, Try.ntmps22
  go_wp2_with (go_at_call 25; refine (HC.out _ hs).mono ?_; rintro e w' ⟨rfl, rfl⟩)
  go_quiet (fail)
  go_wp2
  all_goals
    go_ret2
    first
      | exact ⟨pair_ret (by rw [HF.out, if_pos (show n * 1000000 - (l * 1000000 + R) ≤ l * 1000000 + R by omega), if_pos (by omega)]), below_dN (Below.refl _ _) _⟩
      | exact ⟨pair_ret (by rw [HF.out, if_pos (show n * 1000000 - (l * 1000000 + R) ≤ l * 1000000 + R by omega), if_neg (by omega)]), below_dN (Below.refl _ _) _⟩
      | exact ⟨pair_ret (by rw [HF.out, if_neg (show ¬ n * 1000000 - (l * 1000000 + R) ≤ l * 1000000 + R by omega), Int.add_zero, if_pos (by omega)]), below_dN (Below.refl _ _) _⟩
      | exact ⟨pair_ret (by rw [HF.out, if_neg (show ¬ n * 1000000 - (l * 1000000 + R) ≤ l * 1000000 + R by omega), Int.add_zero, if_neg (by omega)]), below_dN (Below.refl _ _) _⟩
end Go.Proofs.Ytkpfjabeppdjlaa
