/- Contracts of band.Check and its reference: a table of bands is checked. -/
import Derived.Test.YtkpfjabeppdjlaaTax1
import Derived.Deep.QuietTactic
import Derived.BigQuiet
import Derived.Lib.Hide
namespace Go.Proofs.Ytkpfjabeppdjlaa
open Go.RowKit

/-- What a slice holds: element i's cells, of 'sz' cells each. -/
def Sl {α : Type} (enc : α → List Value) (sz : Nat) (w : World) (B : Nat) (A : Option Addr) (L : List α) : Prop :=
  L ≠ [] → ∃ b off, A = some ⟨b, off, none⟩ ∧ b < B ∧ ∀ i x, L[i]? = some x → ∀ j u, (enc x)[j]? = some u → w.cell? ⟨b, off + i * sz + j, none⟩ = some u

def encBand (x : Int × Int) : List Value := [.int .i64 x.1, .int .i64 x.2]

def badAt (t : List (Int × Int)) (i : Nat) : Int :=
  if (i = 0 ∧ (t.getD i (0, 0)).1 ≠ 0) ∨ (0 < i ∧ (t.getD i (0, 0)).1 ≤ (t.getD (i - 1) (0, 0)).1) then 8
  else if 1125899906842624 < (t.getD i (0, 0)).1 ∨ (t.getD i (0, 0)).2 < 0 ∨ 1000000 < (t.getD i (0, 0)).2 then 2 else 0

/-- The first error among the first n bands; 0 if there is none. -/
def firstBad (t : List (Int × Int)) (n : Nat) : Int := (((List.range n).map (badAt t)).find? (· ≠ 0)).getD 0
def chkE (t : List (Int × Int)) : Int := if 64 < t.length then 5 else firstBad t t.length

theorem bcell {W w1 : World} (hb : Below W.heap.size W w1) : (∀ b o, b < W.heap.size → w1.cell? ⟨b, o, none⟩ = W.cell? ⟨b, o, none⟩) ∧ (∀ b o, b < W.heap.size → w1.frozen? ⟨b, o, none⟩ = W.frozen? ⟨b, o, none⟩) :=
  ⟨fun b o h => hb.cell (p := ⟨b, o, none⟩) h, fun b o h => hb.frozen (p := ⟨b, o, none⟩) h⟩
theorem below_dN {B : Nat} {a w : World} (h : Below B a w) (n : Nat) : Below B a (w.drewN n) := ⟨h.os, h.tape, h.output, h.size, h.block⟩

theorem bad0 {t : List (Int × Int)} {x y : Int} (h : t[0]? = some (x, y)) :
    (x ≠ 0 → badAt t 0 = 8) ∧ (x = 0 → (1125899906842624 < x ∨ y < 0 ∨ 1000000 < y) → badAt t 0 = 2) ∧ (x = 0 → ¬ (1125899906842624 < x ∨ y < 0 ∨ 1000000 < y) → badAt t 0 = 0) := by
  unfold badAt
  simp only [List.getD, h, Option.getD_some]
  refine ⟨fun h1 => by rw [if_pos (by simp [h1])], fun h1 h2 => by rw [if_neg (by simp [h1]), if_pos h2], fun h1 h2 => by rw [if_neg (by simp [h1]), if_neg h2]⟩
theorem badS {t : List (Int × Int)} {k : Nat} {x y x' y' : Int} (h : t[k]? = some (x, y)) (h' : t[k - 1]? = some (x', y')) (hk : 1 ≤ k) :
    (x ≤ x' → badAt t k = 8) ∧ (x' < x → (1125899906842624 < x ∨ y < 0 ∨ 1000000 < y) → badAt t k = 2) ∧ (x' < x → ¬ (1125899906842624 < x ∨ y < 0 ∨ 1000000 < y) → badAt t k = 0) := by
  unfold badAt
  simp only [List.getD, h, h', Option.getD_some]
  refine ⟨fun h1 => by rw [if_pos (by omega)], fun h1 h2 => by rw [if_neg (by omega), if_pos h2], fun h1 h2 => by rw [if_neg (by omega), if_neg h2]⟩
theorem firstBad_of {t : List (Int × Int)} {n : Nat} : ∀ k, k ≤ n → (∀ j, j < k → badAt t j = 0) → (k < n → badAt t k ≠ 0) → firstBad t n = if k < n then badAt t k else 0 := by
  intro k hk hz he
  unfold firstBad
  have hsp : List.range n = List.range k ++ (List.range (n - k)).map (k + ·) := by
    rw [← List.range_add]; congr 1; omega
  rw [hsp, List.map_append, List.find?_append]
  have h1 : ((List.range k).map (badAt t)).find? (· ≠ 0) = none := by
    rw [List.find?_eq_none]
    intro x hx
    obtain ⟨j, hj, rfl⟩ := List.mem_map.1 hx
    simp [hz j (List.mem_range.1 hj)]
  rw [h1, Option.none_or]
  by_cases hkn : k < n
  · rw [if_pos hkn]
    obtain ⟨m, hm⟩ : ∃ m, n - k = m + 1 := ⟨n - k - 1, by omega⟩
    rw [hm, List.range_succ_eq_map]
    simp [he hkn]
  · rw [if_neg hkn]
    have : n - k = 0 := by omega
    rw [this]
    rfl
theorem chk_bad {t : List (Int × Int)} {k : Nat} {e : Int} (h64 : ¬ 64 < t.length) (hz : ∀ j, j < k → badAt t j = 0) (hk : k < t.length) (he : badAt t k = e) (hne : e ≠ 0) : e = chkE t := by
  unfold chkE
  rw [if_neg h64, firstBad_of k (by omega) hz (fun _ => by rw [he]; exact hne), if_pos hk, he]
theorem chk_ok {t : List (Int × Int)} {k : Nat} (h64 : ¬ 64 < t.length) (hz : ∀ j, j < k → badAt t j = 0) (hk : k = t.length) : 0 = chkE t := by
  unfold chkE
  subst hk
  rw [if_neg h64, firstBad_of t.length (Nat.le_refl _) hz (fun h => absurd h (by omega)), if_neg (by omega)]
theorem bad_more {t : List (Int × Int)} {k : Nat} (hz : ∀ j, j < k → badAt t j = 0) (h : badAt t k = 0) : ∀ j, j < k + 1 → badAt t j = 0 := fun j hj => by
  rcases Nat.lt_succ_iff_lt_or_eq.1 hj with h1 | rfl
  · exact hz j h1
  · exact h

set_option maxHeartbeats 400000 in
theorem band_Check (t : List (Int × Int)) (A : Option Addr) (cap : Nat) (w : World) (hcap : t.length ≤ 9223372036854775807) (hs : Sl encBand 2 w w.heap.size A t) :
    Calls Try.prog 23 #[.slice A t.length cap] w fun e w' => e = .returned (.int .i64 (chkE t)) ∧ Below w.heap.size w w' := by
  by_cases h64 : 64 < t.length
  · go_enter Try.func23, Try.ntmps23
    go_wp2
    go_ret
    exact ⟨ret_int (by simp [chkE, h64]), Below.refl _ _⟩
  go_enter Try.func23, Try.ntmps23
  go_wp2
  go_loopw [10] (fun i wr => ∃ k : Nat, k ≤ t.length ∧ i = .int .i64 k ∧ (∀ j, j < k → badAt t j = 0) ∧ Below w.heap.size w wr) (fun i _ => t.length - (intOf i).toNat)
  case atStart => exact ⟨0, Nat.zero_le _, rfl, fun _ h => absurd h (by omega), Below.refl _ _⟩
  case round =>
    obtain ⟨k, hk, rfl, hz, hb⟩ := hrel
    by_cases hlt : k < t.length
    · obtain ⟨b, off, rfl, hB, hc⟩ := hs (by intro h; simp [h] at hlt)
      have HZ := Lib.hid hz
      clear hz
      obtain ⟨x, y, hxy⟩ : ∃ x y, t[k]? = some (x, y) := ⟨_, _, List.getElem?_eq_getElem hlt⟩
      have C0 : wr.cell? ⟨b, off + k * 2, none⟩ = some (.int .i64 x) := (hb.cell hB).trans (by simpa using hc k _ hxy 0 _ rfl)
      have C1 : wr.cell? ⟨b, off + k * 2 + 1, none⟩ = some (.int .i64 y) := (hb.cell hB).trans (hc k _ hxy 1 _ rfl)
      have hBr : b < wr.heap.size := Nat.lt_of_lt_of_le hB hb.size
      by_cases h0 : k = 0
      · subst h0
        have c0 : wr.cell? ⟨b, off, none⟩ = some (.int .i64 x) := by simpa using C0
        have c1 : wr.cell? ⟨b, off + 1, none⟩ = some (.int .i64 y) := by simpa using C1
        have HX := Lib.hid (bad0 hxy)
        clear hxy C0 C1 hc hs
        by_cases hx0 : x = 0
        · have hx1 : (x != 0) = false := by simp [hx0]
          have HX0 := Lib.hid hx0
          clear hx0
          go_wp2
          all_goals try go_quiet (fail)
          all_goals go_wp2
          all_goals first
            | (go_ret; exact ⟨ret_int (chk_bad h64 HZ.out hlt (HX.out.2.1 HX0.out (by omega)) (by omega)), below_dN (hb.alloc hb.size _) _⟩)
            | exact ⟨⟨1, by omega, rfl, bad_more HZ.out (HX.out.2.2 HX0.out (by have := HX0.out; omega)), below_dN (hb.alloc hb.size _) _⟩, by simp [intOf]; omega⟩
        · have hx1 : (x != 0) = true := by simp [hx0]
          have HX0 := Lib.hid hx0
          clear hx0
          go_wp2
          all_goals try go_quiet (fail)
          all_goals go_wp2
          go_ret
          exact ⟨ret_int (chk_bad h64 HZ.out hlt (HX.out.1 HX0.out) (by omega)), hb.alloc hb.size _⟩
      · have hp : decide (0 < k) = true := by simp; omega
        obtain ⟨x', y', hxy'⟩ : ∃ x y, t[k-1]? = some (x, y) := ⟨_, _, List.getElem?_eq_getElem (by omega)⟩
        have cm : wr.cell? ⟨b, off + (k - 1) * 2, none⟩ = some (.int .i64 x') := (hb.cell hB).trans (by simpa using hc (k - 1) _ hxy' 0 _ rfl)
        have hk1 : 1 ≤ k := by omega
        have HX := Lib.hid (badS hxy hxy' hk1)
        have k0 : ((k : Int) == 0) = false := by simp; omega
        clear hxy hxy' hc hs
        have hk2 : (0 : Int) ≤ (k : Int) - 1 := by omega
        have hk3 : (k : Int) - 1 < (t.length : Int) := by omega
        have hk4 : ((k : Int) - 1).toNat = k - 1 := by omega
        have hk5 : IntKind.i64.wrap ((k : Int) - 1) = (k : Int) - 1 := IntWalk.i64_in _ (by omega)
        clear h0
        go_wp2
        go_quiet (fail)
        go_wp2
        all_goals first
          | (go_ret; exact ⟨ret_int (chk_bad h64 HZ.out hlt (HX.out.1 (by omega)) (by omega)), below_dN (hb.alloc hb.size _) _⟩)
          | (go_ret; exact ⟨ret_int (chk_bad h64 HZ.out hlt (HX.out.2.1 (by omega) (by omega)) (by omega)), below_dN (hb.alloc hb.size _) _⟩)
          | exact ⟨⟨k + 1, by omega, by go_num, bad_more HZ.out (HX.out.2.2 (by omega) (by omega)), below_dN (hb.alloc hb.size _) _⟩, by simp [intOf]; omega⟩
    · have HZ := Lib.hid hz
      clear hz
      go_wp2
      go_ret
      exact ⟨ret_int (chk_ok h64 HZ.out (by omega)), hb⟩
end Go.Proofs.Ytkpfjabeppdjlaa
