import Derived.Test.YtlgoaohklggcdaaGreatDoorAbz
import Derived.BigQuiet
/- Which of the absences told stands on a day. -/
namespace Go.Proofs.YtlgoaohklggcdaaGreatDoor
open Go.RowKit Go.Sort

def pT (x : Ab) (d : Int) : Bool := decide (x.fr ≤ d) && (decide (x.to = 0) || decide (d < x.to))
def nnAt (M : List Ab) (j : Int) : Int := match M[j.toNat]? with
  | some x => x.nn
  | none => 0
def atM (M : List Ab) (d : Int) : Nat → Int
  | 0 => -1
  | k + 1 => match M[k]? with
    | some x => if (pT x d && (decide (atM M d k < 0) || decide (nnAt M (atM M d k) < x.nn))) = true then (k : Int) else atM M d k
    | none => atM M d k
theorem atM_succ {M : List Ab} {d : Int} {k : Nat} {x : Ab} (h : M[k]? = some x) : atM M d (k + 1) = if (pT x d && (decide (atM M d k < 0) || decide (nnAt M (atM M d k) < x.nn))) = true then (k : Int) else atM M d k := by
  rw [atM, h]
theorem atM_bd (M : List Ab) (d : Int) : ∀ k, atM M d k = -1 ∨ ∃ j : Nat, atM M d k = j ∧ j < k ∧ j < M.length
  | 0 => .inl rfl
  | k + 1 => by
    have ih := atM_bd M d k
    cases hx : M[k]? with
    | none =>
      rw [atM, hx]
      rcases ih with h | ⟨j, h1, h2, h3⟩
      · exact .inl h
      · exact .inr ⟨j, h1, by omega, h3⟩
    | some x =>
      rw [atM_succ hx]
      split
      · exact .inr ⟨k, rfl, by omega, by have := (List.getElem?_eq_some_iff.1 hx).1; omega⟩
      · rcases ih with h | ⟨j, h1, h2, h3⟩
        · exact .inl h
        · exact .inr ⟨j, h1, by omega, h3⟩
set_option maxHeartbeats 4000000 in
set_option maxRecDepth 100000 in
theorem r18_At (M : List Ab) (d : Int) (A : Option Addr) (cap : Nat) (w : World) (hn : M.length ≤ 1000000) (hs : Sl encTo 5 w w.heap.size A M) :
    Calls Tryz.prog 83 #[.slice A M.length cap, .int .i64 d] w fun e w' => e = .returned (.int .i64 (atM M d M.length)) ∧ Below w.heap.size w w' := by
  have HS := Lib.hid hs
  clear hs
  go_enter Tryz.func83, Tryz.ntmps83
  go_wp2
  go_loopw [5, 6] (fun qv iv wr => ∃ k : Nat, k ≤ M.length ∧ iv = .int .i64 k ∧ (∃ q : Int, qv = .int .i64 q ∧ Hid (atM M d k = q)) ∧ Hid (Below w.heap.size w wr)) (fun _ iv _ => M.length - (intOf iv).toNat)
  case atStart => exact ⟨0, Nat.zero_le _, rfl, ⟨-1, rfl, Lib.hid rfl⟩, Lib.hid (Below.refl _ _)⟩
  case round =>
    obtain ⟨k, hk, rfl, ⟨q, rfl, HQ⟩, HB⟩ := hrel
    obtain ⟨wo, hwo⟩ : ∃ x : World, x = wr := ⟨_, rfl⟩
    subst hwo
    by_cases hlt : k < M.length
    · obtain ⟨⟨xf, xt, xk, xp, xn⟩, hx⟩ : ∃ x, M[k]? = some x := ⟨_, List.getElem?_eq_getElem hlt⟩
      obtain ⟨b, off, rfl, hbl, hat⟩ := HS.out (by intro h; simp [h] at hlt)
      have C0 : wo.cell? ⟨b, off + k * 5, none⟩ = some (.int .i64 xn) := bCell HB.out (hat k _ hx 0 _ rfl)
      have C1 : wo.cell? ⟨b, off + k * 5 + 1, none⟩ = some (.int .i64 xf) := bCell HB.out (hat k _ hx 1 _ rfl)
      have C2 : wo.cell? ⟨b, off + k * 5 + 2, none⟩ = some (.int .i64 xt) := bCell HB.out (hat k _ hx 2 _ rfl)
      have hlt2 : (k : Int) < (M.length : Int) := by omega
      have HPS := Lib.hid (atM_succ (d := d) hx)
      rw [HQ.out] at HPS
      have hqb : q = -1 ∨ ∃ j : Nat, q = j ∧ j < k ∧ j < M.length := by rw [← HQ.out]; exact atM_bd M d k
      have HAT := Lib.hid hat
      clear hat hx hlt HQ hbl
      rcases hqb with rfl | ⟨j, rfl, hj1, hj2⟩
      · have HP2 : Hid (atM M d (k + 1) = if (decide (xf ≤ d) && (decide (xt = 0) || decide (d < xt))) = true then (k : Int) else -1) := Lib.hid (by rw [HPS.out]; unfold pT; simp)
        clear HPS
        obtain ⟨x1, d1⟩ : ∃ z, decide (xf ≤ d) = z := ⟨_, rfl⟩
        obtain ⟨x2, d2⟩ : ∃ z, (xt == 0) = z := ⟨_, rfl⟩
        obtain ⟨x3, d3⟩ : ∃ z, decide (d < xt) = z := ⟨_, rfl⟩
        have HP3 : Hid (atM M d (k + 1) = if (x1 && (x2 || x3)) = true then (k : Int) else -1) := Lib.hid (by rw [HP2.out, d1, d3, ← d2]; rfl)
        clear HP2
        cases x1
        rotate_left 1
        cases x2
        cases x3
        all_goals
          have HP4 := Lib.hid (HP3.out.trans (by simp; try rfl))
          clear HP3
          go_upto_region 5 with fail
          go_quiet (fail)
          rename_i nq
          have HBQ : Hid (Below w.heap.size w (wo.drewN nq)) := Lib.hid (HB.out.trans ((bDrewN wo nq).mono HB.out.size))
          clear C0 C1 C2 HB
          go_wp2
          exact ⟨⟨k + 1, by omega, by go_num, ⟨_, rfl, HP4⟩, HBQ⟩, by simp [intOf]; omega⟩
      · obtain ⟨y, hy⟩ : ∃ y, M[j]? = some y := ⟨_, List.getElem?_eq_getElem hj2⟩
        obtain ⟨yn, hyn⟩ : ∃ z, y.nn = z := ⟨_, rfl⟩
        have Y0 : wo.cell? ⟨b, off + j * 5, none⟩ = some (.int .i64 yn) := by rw [← hyn]; exact bCell HB.out (HAT.out j _ hy 0 _ rfl)
        have HP2 : Hid (atM M d (k + 1) = if ((decide (xf ≤ d) && (decide (xt = 0) || decide (d < xt))) && decide (yn < xn)) = true then (k : Int) else (j : Int)) := Lib.hid (by
          rw [HPS.out]
          unfold pT nnAt
          rw [Int.toNat_natCast, hy, show decide ((j : Int) < 0) = false from decide_eq_false (by omega), ← hyn]
          rfl)
        have hjl : (j : Int) < (M.length : Int) := by omega
        have hj0 : ¬ (j : Int) < 0 := by omega
        clear HPS hy hyn
        obtain ⟨x1, d1⟩ : ∃ z, decide (xf ≤ d) = z := ⟨_, rfl⟩
        obtain ⟨x2, d2⟩ : ∃ z, (xt == 0) = z := ⟨_, rfl⟩
        obtain ⟨x3, d3⟩ : ∃ z, decide (d < xt) = z := ⟨_, rfl⟩
        obtain ⟨x4, d4⟩ : ∃ z, decide (yn < xn) = z := ⟨_, rfl⟩
        have HP3 : Hid (atM M d (k + 1) = if ((x1 && (x2 || x3)) && x4) = true then (k : Int) else (j : Int)) := Lib.hid (by rw [HP2.out, d1, d3, d4, ← d2]; rfl)
        have d5 : decide ((j : Int) < 0) = false := decide_eq_false hj0
        clear HP2 hj0
        cases x1
        rotate_left 1
        cases x2
        cases x3
        rotate_left 1
        cases x4
        rotate_left 2
        cases x4
        all_goals
          have HP4 := Lib.hid (HP3.out.trans (by simp; try rfl))
          clear HP3
          go_upto_region 5 with fail
          go_quiet (fail)
          rename_i nq
          have HBQ : Hid (Below w.heap.size w (wo.drewN nq)) := Lib.hid (HB.out.trans ((bDrewN wo nq).mono HB.out.size))
          clear C0 C1 C2 HB Y0
          go_wp2
          exact ⟨⟨k + 1, by omega, by go_num, ⟨_, rfl, HP4⟩, HBQ⟩, by simp [intOf]; omega⟩
    · obtain rfl : k = M.length := by omega
      obtain rfl : q = atM M d M.length := HQ.out.symm
      have hge : ¬ (M.length : Int) < (M.length : Int) := by omega
      clear HQ hlt
      go_wp2
      go_ret
      exact ⟨rfl, HB.out⟩
end Go.Proofs.YtlgoaohklggcdaaGreatDoor
