/- The reference's fold, month by month: what its loops keep. -/
import Derived.Test.YtkbpdbfldijeeaaDoorR4o
import Derived.Test.YtkbpdbfldijeeaaDoorRck
import Derived.Test.YtkbpdbfldijeeaaDoorDe
namespace Go.Proofs.YtkbpdbfldijeeaaDoor
open Go.RowKit Go.Sort

theorem inv_ev {n i : Nat} {s : Fo} {yr ca ex : Int} (h : Inv n s) (h0 : 0 ≤ ca) : Inv n (evS yr ca ex i s) := by
  have h1 : Inv n (evT yr ca i s) := by
    unfold evT
    split
    · exact h.lose.keep h0 rfl
    · exact h
  unfold evS
  split
  · exact h1.lose
  · exact h1
theorem dM_bd {yr : Int} {i : Nat} (h1 : 1900 ≤ yr) (h2 : yrM yr i ≤ 2199) : -25567 ≤ dM yr i ∧ dM yr i ≤ 84006 := by
  have hy : 1900 ≤ yrM yr i := by unfold yrM; omega
  have a := Cal.st_bd hy (by omega)
  have hm := moM_bd i
  have b := Cal.cum_bd (y := yrM yr i) hm.1 hm.2
  have c := Cal.st_succ (yrM yr i)
  have d := Cal.st_bd (y := yrM yr i + 1) (by omega) (by omega)
  have e := Cal.dim_bd (yrM yr i) (moM i)
  unfold dM
  omega
theorem dM_top {yr : Int} (h : yr ≤ 2200) : dM yr (12 * (2200 - yr).toNat) = 84006 := by
  have e1 : yrM yr (12 * (2200 - yr).toNat) = 2200 := by unfold yrM; omega
  have e2 : moM (12 * (2200 - yr).toNat) = 1 := by unfold moM; omega
  unfold dM
  rw [e1, e2, Cal.cum_1, Cal.st_2200]
  omega
/-- What the fold holds at month i, after a moves. -/
structure RS (w wr : World) (l : List Mv) (yr ca ex un : Int) (T : Fo) (ab rb i a : Nat) (s : Fo) : Prop where
  tot : refR yr ca ex un (12 * (2200 - yr).toNat - i) i s (l.drop a) = T
  le : i ≤ 12 * (2200 - yr).toNat
  al : a ≤ l.length
  inv : Inv a s
  blk : Bk ab 35 #[.int .i64 s.g, .int .i64 s.t, .int .i64 s.e, .int .i64 0] wr
  res : Bk rb 35 #[.int .i64 0, .int .i64 0, .int .i64 0, .int .i64 0] wr
  bel : Below w.heap.size w wr
theorem RS.done {w wr : World} {l : List Mv} {yr ca ex un : Int} {T : Fo} {ab rb i a : Nat} {s : Fo} (h : RS w wr l yr ca ex un T ab rb i a s) (hd : i = 12 * (2200 - yr).toNat ∨ un < dM yr i) : s = T := by
  have h1 := h.tot
  obtain ⟨n, hn⟩ : ∃ n, 12 * (2200 - yr).toNat - i = n := ⟨_, rfl⟩
  rw [hn] at h1
  cases n with
  | zero => exact h1
  | succ n =>
    unfold refR at h1
    rw [if_pos (hd.resolve_left (by omega))] at h1
    exact h1
theorem RS.step {w wr : World} {l : List Mv} {yr ca ex un : Int} {T : Fo} {ab rb i a : Nat} {s : Fo} (h : RS w wr l yr ca ex un T ab rb i a s) (hi : i < 12 * (2200 - yr).toNat) (hu : ¬ un < dM yr i) :
    refR yr ca ex un (12 * (2200 - yr).toNat - (i + 1)) (i + 1) (takeM un (dM yr (i + 1)) (evS yr ca ex i s) (l.drop a)).1 (takeM un (dM yr (i + 1)) (evS yr ca ex i s) (l.drop a)).2 = T := by
  have h1 := h.tot
  obtain ⟨n, hn⟩ : ∃ n, 12 * (2200 - yr).toNat - i = n + 1 := ⟨12 * (2200 - yr).toNat - i - 1, by omega⟩
  rw [hn] at h1
  unfold refR at h1
  rw [if_neg hu] at h1
  rw [show 12 * (2200 - yr).toNat - (i + 1) = n by omega]
  exact h1
theorem take_end {un e : Int} {l : List Mv} {a : Nat} {s : Fo} (h : l.length ≤ a ∨ ∃ x, l[a]? = some x ∧ ¬ (x.1 < e ∧ x.1 ≤ un)) : takeM un e s (l.drop a) = (s, l.drop a) := by
  rcases h with h | ⟨x, hx, hn⟩
  · rw [List.drop_eq_nil_of_le h]; rfl
  · obtain ⟨hlt, rfl⟩ := List.getElem?_eq_some_iff.1 hx
    rw [List.drop_eq_getElem_cons hlt]
    unfold takeM
    rw [if_neg hn]
theorem take_one {un e : Int} {l : List Mv} {a : Nat} {s : Fo} {x : Mv} (hx : l[a]? = some x) (h : x.1 < e ∧ x.1 ≤ un) : takeM un e s (l.drop a) = takeM un e (moveV x.2.1 x.2.2 s) (l.drop (a + 1)) := by
  obtain ⟨hlt, rfl⟩ := List.getElem?_eq_some_iff.1 hx
  rw [List.drop_eq_getElem_cons hlt]
  conv => lhs; unfold takeM
  rw [if_pos h]
end Go.Proofs.YtkbpdbfldijeeaaDoor
