/- Out of: Yj4. -/
import Derived.Test.YtgepbkldgnjpfaaGreatDoorZgt
import Derived.BigRegion
import Derived.Deep.CutBlock
import Derived.WalkMore
/- year: State.Step, up to the parts. -/
namespace Go.Proofs.YtgepbkldgnjpfaaGreatDoor
open Go.RowKit Go.Sort Go.BigFrame Go.Maps

theorem slpS_sz {m : Ass Kp Int} : ∀ x ∈ (slpR m).1, x.2.1.size ≤ 32 := by
  intro x hx
  unfold slpR at hx
  split at hx
  · cases hx
  · have hpm : (slpS m).Perm (slpG m []) := List.mergeSort_perm _ _
    obtain ⟨k, v, _, _, _, rfl⟩ := (slpG_mem m []).1 (hpm.mem_iff.1 hx)
    exact lnP_sz k v
/-- What a step keeps of its own blocks. -/
structure StW (w : World) (sb mb ob pbx xb rb pb lb : Nat) (S : Ste) (V : StA) (M : Mon) (A : MoA) (wr : World) : Prop where
  s : Bk sb 33 (stC S V) wr
  m : Bk mb 54 (moC M A) wr
  o : Bk ob 33 (stC Ste.none StA.none) wr
  l : Bk pbx 41 #[.int .i64 0, .int .i64 0, .slice none 0 0] wr
  x : BkX xb pb wr
  r : Bk rb 98 (prtsV xb) wr
  ne : w.heap.size ≤ sb ∧ sb < mb ∧ mb < ob ∧ ob < pbx ∧ pbx < lb ∧ lb < pb ∧ pb < xb ∧ pb < rb
theorem StW.kep {w : World} {sb mb ob pbx xb rb pb lb : Nat} {S : Ste} {V : StA} {M : Mon} {A : MoA} {wr wr' : World} (h : StW w sb mb ob pbx xb rb pb lb S V M A wr) (k : Kep pb lb wr wr') : StW w sb mb ob pbx xb rb pb lb S V M A wr' where
  s := k.bk h.s (by have := h.ne; omega) (by have := h.ne; omega)
  m := k.bk h.m (by have := h.ne; omega) (by have := h.ne; omega)
  o := k.bk h.o (by have := h.ne; omega) (by have := h.ne; omega)
  l := k.bk h.l (by have := h.ne; omega) (by have := h.ne; omega)
  x := k.bk h.x (by have := h.ne; omega) (by have := h.ne; omega)
  r := k.bk h.r (by have := h.ne; omega) (by have := h.ne; omega)
  ne := h.ne
/-- Eight cells set. -/
def set8 (w : World) (b : Nat) (u0 u1 u2 u3 u4 u5 u6 u7 : Value) : World := (((((((w.setCell ⟨b, 0, none⟩ u0).setCell ⟨b, 1, none⟩ u1).setCell ⟨b, 2, none⟩ u2).setCell ⟨b, 3, none⟩ u3).setCell ⟨b, 4, none⟩ u4).setCell ⟨b, 5, none⟩ u5).setCell ⟨b, 6, none⟩ u6).setCell ⟨b, 7, none⟩ u7
theorem bk_set8 {b : Nat} {t : TypeId} {x0 x1 x2 x3 x4 x5 x6 x7 : Value} {w : World} (h : Bk b t #[x0, x1, x2, x3, x4, x5, x6, x7] w) (u0 u1 u2 u3 u4 u5 u6 u7 : Value) : Bk b t #[u0, u1, u2, u3, u4, u5, u6, u7] (set8 w b u0 u1 u2 u3 u4 u5 u6 u7) := by
  have h0 : Bk b t #[u0, x1, x2, x3, x4, x5, x6, x7] (w.setCell ⟨b, 0, none⟩ u0) := h.set_ 0 u0
  have h1 : Bk b t #[u0, u1, x2, x3, x4, x5, x6, x7] ((w.setCell ⟨b, 0, none⟩ u0).setCell ⟨b, 1, none⟩ u1) := h0.set_ 1 u1
  have h2 : Bk b t #[u0, u1, u2, x3, x4, x5, x6, x7] (((w.setCell ⟨b, 0, none⟩ u0).setCell ⟨b, 1, none⟩ u1).setCell ⟨b, 2, none⟩ u2) := h1.set_ 2 u2
  have h3 : Bk b t #[u0, u1, u2, u3, x4, x5, x6, x7] ((((w.setCell ⟨b, 0, none⟩ u0).setCell ⟨b, 1, none⟩ u1).setCell ⟨b, 2, none⟩ u2).setCell ⟨b, 3, none⟩ u3) := h2.set_ 3 u3
  have h4 : Bk b t #[u0, u1, u2, u3, u4, x5, x6, x7] (((((w.setCell ⟨b, 0, none⟩ u0).setCell ⟨b, 1, none⟩ u1).setCell ⟨b, 2, none⟩ u2).setCell ⟨b, 3, none⟩ u3).setCell ⟨b, 4, none⟩ u4) := h3.set_ 4 u4
  have h5 : Bk b t #[u0, u1, u2, u3, u4, u5, x6, x7] ((((((w.setCell ⟨b, 0, none⟩ u0).setCell ⟨b, 1, none⟩ u1).setCell ⟨b, 2, none⟩ u2).setCell ⟨b, 3, none⟩ u3).setCell ⟨b, 4, none⟩ u4).setCell ⟨b, 5, none⟩ u5) := h4.set_ 5 u5
  have h6 : Bk b t #[u0, u1, u2, u3, u4, u5, u6, x7] (((((((w.setCell ⟨b, 0, none⟩ u0).setCell ⟨b, 1, none⟩ u1).setCell ⟨b, 2, none⟩ u2).setCell ⟨b, 3, none⟩ u3).setCell ⟨b, 4, none⟩ u4).setCell ⟨b, 5, none⟩ u5).setCell ⟨b, 6, none⟩ u6) := h5.set_ 6 u6
  have h7 : Bk b t #[u0, u1, u2, u3, u4, u5, u6, u7] ((((((((w.setCell ⟨b, 0, none⟩ u0).setCell ⟨b, 1, none⟩ u1).setCell ⟨b, 2, none⟩ u2).setCell ⟨b, 3, none⟩ u3).setCell ⟨b, 4, none⟩ u4).setCell ⟨b, 5, none⟩ u5).setCell ⟨b, 6, none⟩ u6).setCell ⟨b, 7, none⟩ u7) := h6.set_ 7 u7
  exact h7
theorem below_set8 {b B : Nat} {w w1 : World} (h : Below B w w1) (hb : B ≤ b) (u0 u1 u2 u3 u4 u5 u6 u7 : Value) : Below B w (set8 w1 b u0 u1 u2 u3 u4 u5 u6 u7) := (((((((h.setCell (p := ⟨b, 0, none⟩) hb _).setCell (p := ⟨b, 1, none⟩) hb _).setCell (p := ⟨b, 2, none⟩) hb _).setCell (p := ⟨b, 3, none⟩) hb _).setCell (p := ⟨b, 4, none⟩) hb _).setCell (p := ⟨b, 5, none⟩) hb _).setCell (p := ⟨b, 6, none⟩) hb _).setCell (p := ⟨b, 7, none⟩) hb _
theorem bk_setO8 {g b : Nat} {t : TypeId} {cs : Array Value} {w : World} (k : Bk g t cs w) (hne : b ≠ g) (u0 u1 u2 u3 u4 u5 u6 u7 : Value) : Bk g t cs (set8 w b u0 u1 u2 u3 u4 u5 u6 u7) := bkSetO (bkSetO (bkSetO (bkSetO (bkSetO (bkSetO (bkSetO (bkSetO k hne _ _) hne _ _) hne _ _) hne _ _) hne _ _) hne _ _) hne _ _) hne _ _
theorem d0_eq (S : Ste) (M : Mon) : (⟨{ (if S.y ≠ M.y then { S with be := [], so := [], tb := 0, tt := 0 } else S) with y := M.y, i := M.i, o := M.o }, [], 0, 0, 0⟩ : Sd) = d0 S M := by
  unfold d0
  split <;> rfl
theorem StW.kq {w : World} {sb mb ob pbx xb rb pb lb qb : Nat} {S : Ste} {V : StA} {M : Mon} {A : MoA} {wr wr' : World} (h : StW w sb mb ob pbx xb rb pb lb S V M A wr) (k : Kep qb qb wr wr') (h1 : xb < qb) (h2 : rb < qb) : StW w sb mb ob pbx xb rb pb lb S V M A wr' where
  s := k.bk h.s (by have := h.ne; omega) (by have := h.ne; omega)
  m := k.bk h.m (by have := h.ne; omega) (by have := h.ne; omega)
  o := k.bk h.o (by have := h.ne; omega) (by have := h.ne; omega)
  l := k.bk h.l (by have := h.ne; omega) (by have := h.ne; omega)
  x := k.bk h.x (by omega) (by omega)
  r := k.bk h.r (by omega) (by omega)
  ne := h.ne
theorem Kep.set2 {pb lb : Nat} (w : World) (o : Nat) (v : Value) : Kep pb lb w (w.setCell ⟨lb, o, none⟩ v) := ⟨rfl, rfl, rfl, by simp [World.setCell], fun i _ _ h2 => Below.heap_setCell _ _ _ _ h2⟩
theorem kep_set8 {b c : Nat} (w : World) (u0 u1 u2 u3 u4 u5 u6 u7 : Value) : Kep b c w (set8 w b u0 u1 u2 u3 u4 u5 u6 u7) := (((((((Kep.set _ _ _).trans (Kep.set _ _ _)).trans (Kep.set _ _ _)).trans (Kep.set _ _ _)).trans (Kep.set _ _ _)).trans (Kep.set _ _ _)).trans (Kep.set _ _ _)).trans (Kep.set _ _ _)
theorem own_kep {α : Type} {enc : α → List Value} {k : Nat} {e : TypeId} {base a b : Nat} {v : Value} {l : List α} {w w' : World} (h : Own enc k e base v l w) (hk : Kep a b w w') (ha : a < base) (hb : b < base) : Own enc k e base v l w' := by
  rcases h with ⟨h0, h⟩
  refine ⟨h0, ?_⟩
  rcases h with h | ⟨g, cap, cur, h1, h2, h3, h4⟩
  · exact .inl h
  · exact .inr ⟨g, cap, cur, h1, h2, (hk.block g (Array.getElem?_eq_some_iff.1 h3).1 (by omega) (by omega)).trans h3, h4⟩
theorem runs_keep : ∀ (l : List (Sd → Sd × Int)) (d : Sd) (e : Int), (∀ f ∈ l, ∀ d, (f d).1.S.y = d.S.y ∧ (f d).1.S.i = d.S.i ∧ (f d).1.S.o = d.S.o) → ((runs l d e).1.S.y = d.S.y ∧ (runs l d e).1.S.i = d.S.i ∧ (runs l d e).1.S.o = d.S.o) ∧ ((runs l d e).2 = 0 → e = 0)
  | [], d, e, _ => ⟨⟨rfl, rfl, rfl⟩, fun h => h⟩
  | f :: r, d, e, h => by
    unfold runs
    split
    · rename_i he
      exact ⟨⟨rfl, rfl, rfl⟩, fun h0 => absurd h0 he⟩
    · rename_i he
      have h1 := (runs_keep r (f d).1 (f d).2 fun g hg => h g (List.mem_cons_of_mem _ hg)).1
      have h2 := h f List.mem_cons_self d
      exact ⟨⟨h1.1.trans h2.1, h1.2.1.trans h2.2.1, h1.2.2.trans h2.2.2⟩, fun _ => by simpa using he⟩
theorem chkM_bd {S : Ste} {M : Mon} (h : chkM S M = 0) : (1900 ≤ M.y ∧ M.y ≤ 2199) ∧ (1 ≤ M.i ∧ M.i ≤ 400) ∧ 1 ≤ M.o ∧ M.o ≤ 400 := by
  unfold chkM at h
  split at h
  · cases h
  · omega
theorem runs_bd {S : Ste} {M : Mon} {dq : Sd} (h : runs (prts M) (d0 S M) (chkM S M) = (dq, 0)) : (0 ≤ dq.S.y ∧ dq.S.y ≤ 2199) ∧ (0 ≤ dq.S.i ∧ dq.S.i ≤ 400) ∧ 0 ≤ dq.S.o ∧ dq.S.o ≤ 400 := by
  have h1 := runs_keep (prts M) (d0 S M) (chkM S M) (by
    intro f hf d
    simp only [prts, List.mem_cons, List.not_mem_nil, or_false] at hf
    rcases hf with rfl | rfl | rfl | rfl | rfl | rfl <;> exact ⟨rfl, rfl, rfl⟩)
  rw [h] at h1
  have h2 := chkM_bd (h1.2 rfl)
  have h3 : (d0 S M).S.y = M.y ∧ (d0 S M).S.i = M.i ∧ (d0 S M).S.o = M.o := by rw [← d0_eq]; exact ⟨rfl, rfl, rfl⟩
  obtain ⟨⟨g1, g2, g3⟩, _⟩ := h1
  rw [h3.1] at g1
  rw [h3.2.1] at g2
  rw [h3.2.2] at g3
  dsimp only at g1 g2 g3
  omega
set_option maxHeartbeats 4000000 in
set_option maxRecDepth 100000 in
theorem yr_Step (S : Ste) (V : StA) (M : Mon) (A : MoA) (n : Nat) (w : World) (hS : StOk S V n w) (hn : n ≤ 900000000) (hm : MoOk M A w) (hT : Tb w) :
    Calls Tryz.prog 16 #[stV S V, moV M A] w fun e w' => ∃ V2 v, e = .returned (.tuple #[stV (stepM S M).1 V2, .agg #[.int .i64 (stepM S M).2.1.1, .int .i64 (stepM S M).2.1.2.1, v], .int .i64 (stepM S M).2.2]) ∧ Own encLi 3 44 w.heap.size v (stepM S M).2.1.2.2 w' ∧ StOk (stepM S M).1 V2 (n + 384) w' ∧ Below w.heap.size w w' := by
  obtain ⟨R, hR⟩ : ∃ R, stepM S M = R := ⟨_, rfl⟩
  rw [hR]
  obtain ⟨ce, hce⟩ : ∃ R, chkM S M = R := ⟨_, rfl⟩
  have HR := Lib.hid hR
  have HCE := Lib.hid hce
  have HSO := Lib.hid hS
  have HMO := Lib.hid hm
  have HT := Lib.hid hT
  have HN := Lib.hid hn
  have HCH : Hid (∀ W, Below w.heap.size w W → Calls Tryz.prog 32 #[stV S V, moV M A] W fun e w' => e = .returned (.int .i64 ce) ∧ Below W.heap.size W w') := Lib.hid fun W hW => by rw [← hce]; exact yr_check S V M A W hS.bd (hm.below hW) (hT.below hW)
  clear hR hce hS hm hT hn
  obtain ⟨sb, hsb⟩ : ∃ x, w.heap.size = x := ⟨_, rfl⟩
  obtain ⟨mb, hmb⟩ : ∃ x, sb + 1 = x := ⟨_, rfl⟩
  obtain ⟨ob, hob⟩ : ∃ x, mb + 1 = x := ⟨_, rfl⟩
  obtain ⟨pbx, hpbx⟩ : ∃ x, ob + 1 = x := ⟨_, rfl⟩
  obtain ⟨u1, hu1⟩ : ∃ x, w.alloc (.cells (stC S V) 33) = x := ⟨_, rfl⟩
  obtain ⟨u2, hu2⟩ : ∃ x, u1.alloc (.cells (moC M A) 54) = x := ⟨_, rfl⟩
  obtain ⟨u3, hu3⟩ : ∃ x, u2.alloc (.cells (stC Ste.none StA.none) 33) = x := ⟨_, rfl⟩
  obtain ⟨wa, hwa⟩ : ∃ x, u3.alloc (.cells #[.int .i64 0, .int .i64 0, .slice none 0 0] 41) = x := ⟨_, rfl⟩
  have z1 : u1.heap.size = mb := by rw [← hu1]; simp; omega
  have z2 : u2.heap.size = ob := by rw [← hu2]; simp; omega
  have z3 : u3.heap.size = pbx := by rw [← hu3]; simp; omega
  have g1 : Below w.heap.size w u1 := by rw [← hu1]; exact bAlloc _ _
  have g2 : Below u1.heap.size u1 u2 := by rw [← hu2]; exact bAlloc _ _
  have g3 : Below u2.heap.size u2 u3 := by rw [← hu3]; exact bAlloc _ _
  have g4 : Below u3.heap.size u3 wa := by rw [← hwa]; exact bAlloc _ _
  have k1 : Bk sb 33 (stC S V) wa := bkBel (bkBel (bkBel (by rw [← hu1, ← hsb]; exact Bk.new _ _ _) g2) g3) g4
  have k2 : Bk mb 54 (moC M A) wa := bkBel (bkBel (by rw [← hu2, ← z1]; exact Bk.new _ _ _) g3) g4
  have k3 : Bk ob 33 (stC Ste.none StA.none) wa := bkBel (by rw [← hu3, ← z2]; exact Bk.new _ _ _) g4
  have k4 : Bk pbx 41 #[.int .i64 0, .int .i64 0, .slice none 0 0] wa := by rw [← hwa, ← z3]; exact Bk.new _ _ _
  have HK := Lib.hid (And.intro k1 (And.intro k2 (And.intro k3 k4)))
  have HBA : Hid (Below w.heap.size w wa) := Lib.hid (bTrans (bTrans (bTrans g1 g2) g3) g4)
  have HNE : Hid (w.heap.size = sb ∧ sb < mb ∧ mb < ob ∧ ob < pbx ∧ pbx < wa.heap.size) := Lib.hid ⟨hsb, by omega, by omega, by omega, k4.lt⟩
  have HWF : Hid (sb = w.heap.size ∧ (((w.alloc (.cells (stC S V) 33)).alloc (.cells (moC M A) 54)).alloc (.cells #[.int .i64 0, .int .i64 0, .int .i64 0, .map none, .map none, .int .i64 0, .int .i64 0, .map none] 33)).alloc (.cells #[.int .i64 0, .int .i64 0, .slice none 0 0] 41) = wa ∧ w.heap.size + 1 = mb ∧ w.heap.size + 1 + 1 = ob ∧ w.heap.size + 1 + 1 + 1 = pbx) := Lib.hid ⟨hsb.symm, by rw [hu1, hu2]; show (u2.alloc (.cells (stC Ste.none StA.none) 33)).alloc _ = wa; rw [hu3, hwa], by omega, by omega, by omega⟩
  clear k1 k2 k3 k4 g1 g2 g3 g4 z1 z2 z3 hu1 hu2 hu3 hwa hmb hob hpbx hsb
  have HCELL : Hid (∀ W, Below wa.heap.size wa W → W.cell? ⟨sb, 0, none⟩ = some (.int .i64 S.y) ∧ W.cell? ⟨sb, 1, none⟩ = some (.int .i64 S.i) ∧ W.cell? ⟨sb, 2, none⟩ = some (.int .i64 S.o) ∧ W.cell? ⟨sb, 3, none⟩ = some (V.be) ∧ W.cell? ⟨sb, 4, none⟩ = some (V.so) ∧ W.cell? ⟨sb, 5, none⟩ = some (.int .i64 S.tb) ∧ W.cell? ⟨sb, 6, none⟩ = some (.int .i64 S.tt) ∧ W.cell? ⟨sb, 7, none⟩ = some (V.od) ∧ W.cell? ⟨mb, 0, none⟩ = some (.int .i64 M.y) ∧ W.cell? ⟨mb, 1, none⟩ = some (.int .i64 M.i) ∧ W.cell? ⟨mb, 2, none⟩ = some (.int .i64 M.o) ∧ W.cell? ⟨mb, 3, none⟩ = some (.slice A.gr.1 M.gr.length A.gr.2) ∧ W.cell? ⟨mb, 4, none⟩ = some (.slice A.be.1 M.be.length A.be.2) ∧ W.cell? ⟨mb, 5, none⟩ = some (.slice A.af.1 M.af.length A.af.2) ∧ W.cell? ⟨mb, 6, none⟩ = some (.slice A.li.1 M.li.length A.li.2) ∧ W.cell? ⟨mb, 7, none⟩ = some (.slice A.sc.1 M.sc.length A.sc.2) ∧ W.cell? ⟨mb, 8, none⟩ = some (.int .i64 M.al) ∧ W.cell? ⟨mb, 9, none⟩ = some (.int .i64 M.ex) ∧ W.cell? ⟨mb, 10, none⟩ = some (.slice A.ba.1 M.ba.length A.ba.2) ∧ W.cell? ⟨mb, 11, none⟩ = some (.slice A.od.1 M.od.length A.od.2)) := Lib.hid fun W hW => ⟨(bkBel HK.out.1 hW).cell 0, (bkBel HK.out.1 hW).cell 1, (bkBel HK.out.1 hW).cell 2, (bkBel HK.out.1 hW).cell 3, (bkBel HK.out.1 hW).cell 4, (bkBel HK.out.1 hW).cell 5, (bkBel HK.out.1 hW).cell 6, (bkBel HK.out.1 hW).cell 7, (bkBel HK.out.2.1 hW).cell 0, (bkBel HK.out.2.1 hW).cell 1, (bkBel HK.out.2.1 hW).cell 2, (bkBel HK.out.2.1 hW).cell 3, (bkBel HK.out.2.1 hW).cell 4, (bkBel HK.out.2.1 hW).cell 5, (bkBel HK.out.2.1 hW).cell 6, (bkBel HK.out.2.1 hW).cell 7, (bkBel HK.out.2.1 hW).cell 8, (bkBel HK.out.2.1 hW).cell 9, (bkBel HK.out.2.1 hW).cell 10, (bkBel HK.out.2.1 hW).cell 11⟩
  obtain ⟨E0, E1, E2, E3, E4, E5, E6, E7, F0, F1, F2, F3, F4, F5, F6, F7, F8, F9, F10, F11⟩ := HCELL.out wa (Below.refl _ _)
  have hmm := @run_makeMap Tryz.prog
  unfold stV moV
  go_enter Tryz.func16, Tryz.ntmps16
  go_upto_region 1 with fail
  rw [HWF.out.2.1, HWF.out.2.2.2.2, HWF.out.2.2.2.1, HWF.out.2.2.1, ← HWF.out.1]
  clear HWF
  refine wp_scope_straight ?_
  go_wp2_with fail
  refine (HCH.out _ HBA.out).mono ?_
  rintro e w2 ⟨rfl, hb2⟩
  have HB2 := Lib.hid hb2
  clear E0 E1 E2 E3 E4 E5 E6 E7 F0 F1 F2 F3 F4 F5 F6 F7 F8 F9 F10 F11
  obtain ⟨E0, E1, E2, E3, E4, E5, E6, E7, F0, F1, F2, F3, F4, F5, F6, F7, F8, F9, F10, F11⟩ := HCELL.out w2 hb2
  obtain ⟨lb, hlb⟩ : ∃ x, w2.heap.size = x := ⟨_, rfl⟩
  obtain ⟨pb, hpb⟩ : ∃ x, lb + 1 = x := ⟨_, rfl⟩
  obtain ⟨wl, hwl⟩ : ∃ x, w2.alloc (.map #[] 0) = x := ⟨_, rfl⟩
  obtain ⟨wq, hwq⟩ : ∃ x, wl.alloc (.cells #[.int .i64 S.y, .int .i64 S.i, .int .i64 S.o, V.be, V.so, .int .i64 S.tb, .int .i64 S.tt, V.od, .int .i64 M.y, .int .i64 M.i, .int .i64 M.o, .slice A.gr.1 M.gr.length A.gr.2, .slice A.be.1 M.be.length A.be.2, .slice A.af.1 M.af.length A.af.2, .slice A.li.1 M.li.length A.li.2, .slice A.sc.1 M.sc.length A.sc.2, .int .i64 M.al, .int .i64 M.ex, .slice A.ba.1 M.ba.length A.ba.2, .slice A.od.1 M.od.length A.od.2, .map (some lb), .int .i64 0, .int .i64 0, .int .i64 0] 95) = x := ⟨_, rfl⟩
  have zl : wl.heap.size = pb := by rw [← hwl]; simp; omega
  have hol : OmP [] 0 lb wl := by
    have := World.ownsMap_made (H := Value) w2 Tryz.prog 123 heldV
    rw [hlb, hwl] at this
    exact this
  have hbl : Below w2.heap.size w2 wl := by rw [← hwl]; exact bAlloc _ _
  have hbq : Below wl.heap.size wl wq := by rw [← hwq]; exact bAlloc _ _
  have hbp : BkS pb (sgO ⟨S, [], 0, 0, 0⟩ V M A lb) wq := by rw [← hwq, ← zl]; exact Bk.new _ _ _
  have HBQ := Lib.hid (bTrans (bTrans hb2 hbl) hbq)
  have hbw : Below w.heap.size w wq := bTrans HBA.out HBQ.out
  have HSP : Hid (SpW w pb lb M A ⟨S, [], 0, 0, 0⟩ V n 0 wq) := Lib.hid (by
    have h1 := HNE.out
    have h2 := hb2.size
    have n1 : ∀ {κ β : Type} {K : TypeId} {kl : κ → Lit} {enc : β → Value} {m : Ass κ β} {v : Value}, MapV K kl enc m n v w → v ≠ .map (some lb) := fun h e => by have := h.lt e; omega
    exact ⟨hbw, hbp, hmBel hol hbq, HSO.out.be.below hbw, HSO.out.so.below hbw, HSO.out.od.below hbw, ⟨n1 HSO.out.be, n1 HSO.out.so, n1 HSO.out.od⟩, ⟨by omega, by omega⟩, by show (-9223372036854775808 ≤ (0 : Int) ∧ (0 : Int) ≤ 9223372036854775807) ∧ (-9223372036854775808 ≤ (0 : Int) ∧ (0 : Int) ≤ 9223372036854775807); decide⟩)
  have HNQ : Hid (pbx < lb ∧ lb < pb ∧ pb < wq.heap.size) := Lib.hid ⟨by have := HNE.out; have := hb2.size; omega, by omega, Bk.lt hbp⟩
  have HWL := Lib.hid (And.intro hlb (And.intro hpb (And.intro hwl hwq)))
  clear hb2 hbl hbq hol hbp hbw zl hlb hpb hwl hwq
  have HQ : Hid (Bk sb 33 (stC S V) wq ∧ Bk mb 54 (moC M A) wq ∧ Bk ob 33 (stC Ste.none StA.none) wq ∧ Bk pbx 41 #[.int .i64 0, .int .i64 0, .slice none 0 0] wq) := Lib.hid ⟨bkBel HK.out.1 HBQ.out, bkBel HK.out.2.1 HBQ.out, bkBel HK.out.2.2.1 HBQ.out, bkBel HK.out.2.2.2 HBQ.out⟩
  obtain ⟨S1, hS1⟩ : ∃ x, (if S.y ≠ M.y then { S with be := [], so := [], tb := 0, tt := 0 } else S) = x := ⟨_, rfl⟩
  have HS1 := Lib.hid hS1
  clear hS1
  go_upto_region 3 with fail
  rw [HWL.out.1, HWL.out.2.1, HWL.out.2.2.1, HWL.out.2.2.2]
  clear HWL hmm E0 E1 E2 E3 E4 E5 E6 E7 F0 F1 F2 F3 F4 F5 F6 F7 F8 F9 F10 F11 HCELL HK
  have Q0 : wq.cell? ⟨sb, 0, none⟩ = some (.int .i64 S.y) := HQ.out.1.cell 0
  have Q1 : wq.cell? ⟨mb, 0, none⟩ = some (.int .i64 M.y) := HQ.out.2.1.cell 0
  have n1 : sb ≠ pb := by have := HNE.out; have := HNQ.out; omega
  have n2 : mb ≠ pb := by have := HNE.out; have := HNQ.out; omega
  go_upto_if 24 with fail
  go_cut [7] from 25 (fun ev wx => ev = .int .i64 ce ∧ ∃ V1, Hid (SpW w pb lb M A ⟨S1, [], 0, 0, 0⟩ V1 n 0 wx) ∧ Hid (Kep pb pb wq wx))
  case first =>
    by_cases hy : S.y = M.y
    · have dy : (S.y != M.y) = false := by rw [hy]; simp
      have e1 : S1 = S := by rw [← HS1.out]; exact if_neg (by simpa using hy)
      have HE1 := Lib.hid e1
      clear hy e1
      go_wp2
      go_meet
      exact ⟨rfl, V, by rw [HE1.out]; exact HSP, Lib.hid (Kep.refl _)⟩
    · have dy : (S.y != M.y) = true := by simpa using hy
      have e1 : S1 = { S with be := [], so := [], tb := 0, tt := 0 } := by rw [← HS1.out]; exact if_pos hy
      have HE1 := Lib.hid e1
      have G3 : wq.frozen? ⟨pb, 3, none⟩ = false := Bk.frozen HSP.out.bk 3
      have G4 : wq.frozen? ⟨pb, 4, none⟩ = false := Bk.frozen HSP.out.bk 4
      have G5 : wq.frozen? ⟨pb, 5, none⟩ = false := Bk.frozen HSP.out.bk 5
      have G6 : wq.frozen? ⟨pb, 6, none⟩ = false := Bk.frozen HSP.out.bk 6
      have C3 : wq.cell? ⟨pb, 3, none⟩ = some V.be := Bk.cell HSP.out.bk 3
      have C4 : wq.cell? ⟨pb, 4, none⟩ = some V.so := Bk.cell HSP.out.bk 4
      have C5 : wq.cell? ⟨pb, 5, none⟩ = some (.int .i64 S.tb) := Bk.cell HSP.out.bk 5
      have C6 : wq.cell? ⟨pb, 6, none⟩ = some (.int .i64 S.tt) := Bk.cell HSP.out.bk 6
      clear hy e1
      go_wp2
      go_meet
      have hk : Kep pb pb wq ((((wq.setCell ⟨pb, 3, none⟩ (.map none)).setCell ⟨pb, 4, none⟩ (.map none)).setCell ⟨pb, 5, none⟩ (.int .i64 0)).setCell ⟨pb, 6, none⟩ (.int .i64 0)) := (((Kep.set _ _ _).trans (Kep.set _ _ _)).trans (Kep.set _ _ _)).trans (Kep.set _ _ _)
      exact ⟨rfl, { V with be := .map none, so := .map none }, by rw [HE1.out]; exact Lib.hid (HSP.out.chg hk rfl (Bk.set_ (Bk.set_ (Bk.set_ (Bk.set_ HSP.out.bk 3 (.map none)) 4 (.map none)) 5 (.int .i64 0)) 6 (.int .i64 0)) ⟨MapV.nil, by simp⟩ ⟨MapV.nil, by simp⟩ (HSP.out.moK hk) HSP.out.lr), Lib.hid hk⟩
  case rest =>
  rename World => wc
  obtain ⟨rfl, V1, HSP1, HKP1⟩ := hcut
  clear Q0 Q1
  have hm1 := HKP1.out.bk HQ.out.2.1 n2 n2
  have F0 : wc.cell? ⟨mb, 0, none⟩ = some (.int .i64 M.y) := hm1.cell 0
  have F1 : wc.cell? ⟨mb, 1, none⟩ = some (.int .i64 M.i) := hm1.cell 1
  have F2 : wc.cell? ⟨mb, 2, none⟩ = some (.int .i64 M.o) := hm1.cell 2
  have E0 : wc.drew.cell? ⟨mb, 0, none⟩ = some (.int .i64 M.y) := (bkBel hm1 (bDrew wc)).cell 0
  have E1 : wc.drew.cell? ⟨mb, 1, none⟩ = some (.int .i64 M.i) := (bkBel hm1 (bDrew wc)).cell 1
  have E2 : wc.drew.cell? ⟨mb, 2, none⟩ = some (.int .i64 M.o) := (bkBel hm1 (bDrew wc)).cell 2
  have G0 : wc.frozen? ⟨pb, 0, none⟩ = false := Bk.frozen HSP1.out.bk 0
  have G1 : wc.frozen? ⟨pb, 1, none⟩ = false := Bk.frozen HSP1.out.bk 1
  have G2 : wc.frozen? ⟨pb, 2, none⟩ = false := Bk.frozen HSP1.out.bk 2
  have C0 : wc.cell? ⟨pb, 0, none⟩ = some (.int .i64 S1.y) := Bk.cell HSP1.out.bk 0
  have C1 : wc.cell? ⟨pb, 1, none⟩ = some (.int .i64 S1.i) := Bk.cell HSP1.out.bk 1
  have C2 : wc.cell? ⟨pb, 2, none⟩ = some (.int .i64 S1.o) := Bk.cell HSP1.out.bk 2
  clear hm1
  go_upto_region 5 with fail
  go_cut [7] from 38 (fun ev wx => ev = .int .i64 ce ∧ Hid (SpW w pb lb M A (d0 S M) V1 n 0 wx) ∧ Hid (Kep pb pb wq wx))
  case first =>
    go_wp2_with fail
    go_region
    all_goals
      go_wp2
      go_meet
      have hk : Kep pb pb wc ((((wc.setCell ⟨pb, 0, none⟩ (.int .i64 M.y)).setCell ⟨pb, 1, none⟩ (.int .i64 M.i)).setCell ⟨pb, 2, none⟩ (.int .i64 M.o)).drew) := ((Kep.set _ _ _).trans (Kep.set _ _ _)).trans ((Kep.set _ _ _).trans (Kep.of_below (bDrew _)))
      refine ⟨rfl, Lib.hid ?_, Lib.hid (HKP1.out.trans hk)⟩
      rw [← d0_eq, HS1.out]
      exact HSP1.out.chg hk rfl (bkBel (Bk.set_ (Bk.set_ (Bk.set_ HSP1.out.bk 0 (.int .i64 M.y)) 1 (.int .i64 M.i)) 2 (.int .i64 M.o)) (bDrew _)) (HSP1.out.mbK hk) (HSP1.out.msK hk) (HSP1.out.moK hk) HSP1.out.lr
  case rest =>
  rename World => ws
  obtain ⟨rfl, HSP2, HKP2⟩ := hcut
  clear F0 F1 F2 E0 E1 E2 G0 G1 G2 C0 C1 C2 HSP1 HKP1 HSP HS1
  go_wp2_with fail
  go_step3
  go_wp2_with fail
  refine (yr_parts pb ws).mono ?_
  rintro e w5 ⟨xb, rb, rfl, hx5, hxl, hrl, hr5, hb5⟩
  have HSW : Hid (StW w sb mb ob pbx xb rb pb lb S V M A w5) := Lib.hid (by
    have h1 := HNE.out
    have h2 := HNQ.out
    have h3 := HKP2.out.size
    exact ⟨bkBel (HKP2.out.bk HQ.out.1 n1 n1) hb5, bkBel (HKP2.out.bk HQ.out.2.1 n2 n2) hb5, bkBel (HKP2.out.bk HQ.out.2.2.1 (by omega) (by omega)) hb5, bkBel (HKP2.out.bk HQ.out.2.2.2 (by omega) (by omega)) hb5, hx5, hr5, ⟨by omega, by omega, by omega, by omega, by omega, by omega, by omega, by omega⟩⟩)
  have HSP5 := Lib.hid (HSP2.out.below hb5)
  obtain ⟨Q, hq⟩ : ∃ z, runs (prts M) (d0 S M) ce = z := ⟨_, rfl⟩
  have HQR := Lib.hid hq
  clear hx5 hxl hrl hr5 hb5 hq HSP2 HKP2 HQ HNQ n1 n2
  go_upto_block 0 with fail
  go_cut [7] from 9 (fun ev wx => ∃ V2, ev = .int .i64 Q.2 ∧ Hid (SpW w pb lb M A Q.1 V2 (n + 384) 768 wx) ∧ Hid (Kep pb lb w5 wx))
  case first =>
    go_wp2
    go_loopg [7, 10, 59] 6 (fun kk ev _ iv wr => ∃ (j : Nat) (er : Int) (d : Sd) (V2 : StA), j + kk = 6 ∧ ev = .int .i64 er ∧ iv = .int .i64 j ∧ Hid (runs ((prts M).drop j) d er = Q) ∧ Hid (j = 0 → er = ce) ∧ Hid (0 < j → chkM S M = 0) ∧ Hid (SpW w pb lb M A d V2 (n + 64 * j) (128 * j) wr) ∧ Hid (Kep pb lb w5 wr))
    case atStart => exact ⟨0, ce, d0 S M, V1, rfl, rfl, rfl, HQR, Lib.hid (fun _ => rfl), Lib.hid (fun h => absurd h (by omega)), HSP5, Lib.hid (Kep.refl _)⟩
    case round =>
      obtain ⟨j, er, d, V2, hj, rfl, rfl, HRU, HJ0, HJC, HSJ, HKJ⟩ := hrel
      have HSK := Lib.hid (HSW.out.kep HKJ.out)
      clear HSP5
      by_cases he : er = 0
      case neg =>
        have ne : (er != 0) = true := by simpa using he
        have HQE : Hid (Q = (d, er)) := Lib.hid (by
          rw [← HRU.out]
          cases hl : (prts M).drop j with
          | nil => rfl
          | cons f r => unfold runs; rw [if_pos he])
        have HSZ : Hid (SpW w pb lb M A d V2 (n + 384) 768 wr) := Lib.hid (HSJ.out.mono (by omega) (by omega))
        clear he
        by_cases hj0 : j = 0
        · subst hj0
          have T0 : wr.cell? ⟨rb, 0, none⟩ = some (prtV xb 56) := HSK.out.r.cell 0
          have T1 : rb < wr.heap.size := HSK.out.r.lt
          go_wp2
          go_meet
          exact ⟨V2, by rw [HQE.out], by rw [HQE.out]; exact HSZ, HKJ⟩
        by_cases hj1 : j = 1
        · subst hj1
          have T0 : wr.cell? ⟨rb, 1, none⟩ = some (prtV xb 58) := HSK.out.r.cell 1
          have T1 : rb < wr.heap.size := HSK.out.r.lt
          go_wp2
          go_meet
          exact ⟨V2, by rw [HQE.out], by rw [HQE.out]; exact HSZ, HKJ⟩
        by_cases hj2 : j = 2
        · subst hj2
          have T0 : wr.cell? ⟨rb, 2, none⟩ = some (prtV xb 59) := HSK.out.r.cell 2
          have T1 : rb < wr.heap.size := HSK.out.r.lt
          go_wp2
          go_meet
          exact ⟨V2, by rw [HQE.out], by rw [HQE.out]; exact HSZ, HKJ⟩
        by_cases hj3 : j = 3
        · subst hj3
          have T0 : wr.cell? ⟨rb, 3, none⟩ = some (prtV xb 60) := HSK.out.r.cell 3
          have T1 : rb < wr.heap.size := HSK.out.r.lt
          go_wp2
          go_meet
          exact ⟨V2, by rw [HQE.out], by rw [HQE.out]; exact HSZ, HKJ⟩
        by_cases hj4 : j = 4
        · subst hj4
          have T0 : wr.cell? ⟨rb, 4, none⟩ = some (prtV xb 61) := HSK.out.r.cell 4
          have T1 : rb < wr.heap.size := HSK.out.r.lt
          go_wp2
          go_meet
          exact ⟨V2, by rw [HQE.out], by rw [HQE.out]; exact HSZ, HKJ⟩
        by_cases hj5 : j = 5
        · subst hj5
          have T0 : wr.cell? ⟨rb, 5, none⟩ = some (prtV xb 62) := HSK.out.r.cell 5
          have T1 : rb < wr.heap.size := HSK.out.r.lt
          go_wp2
          go_meet
          exact ⟨V2, by rw [HQE.out], by rw [HQE.out]; exact HSZ, HKJ⟩
        · obtain rfl : j = 6 := by omega
          go_wp2
          go_meet
          exact ⟨V2, by rw [HQE.out], by rw [HQE.out]; exact HSZ, HKJ⟩
      case pos =>
      subst he
      by_cases hj6 : j = 6
      · subst hj6
        have HQE : Hid (Q = (d, 0)) := Lib.hid HRU.out.symm
        go_wp2
        go_meet
        exact ⟨V2, by rw [HQE.out], by rw [HQE.out]; exact HSJ, HKJ⟩
      have HC0 : Hid (chkM S M = 0) := Lib.hid (by
        by_cases h0 : j = 0
        · rw [HCE.out]; exact (HJ0.out h0).symm
        · exact HJC.out (by omega))
      have HTJ : Hid (Tb wr) := Lib.hid (HT.out.below HSJ.out.be)
      by_cases hj0 : j = 0
      · subst hj0
        have T0 : wr.cell? ⟨rb, 0, none⟩ = some (prtV xb 56) := HSK.out.r.cell 0
        have T1 : rb < wr.heap.size := HSK.out.r.lt
        have HPC := Lib.hid (partC1 (w0 := w) (xb := xb) (pb := pb) (lb := lb) HMO.out (chkM_few HC0.out).1 d V2 _ _ wr HSJ.out HSK.out.x (by omega) (by have := HN.out; omega) HTJ.out)
        have HRV : Hid (runs ((prts M).drop 1) (pf1 M d).1 (pf1 M d).2 = Q) := Lib.hid HRU.out
        unfold prtV at T0
        go_wp2_with fail
        refine HPC.out.mono ?_
        rintro e w7 ⟨rfl, hk7, V7, hs7⟩
        have HK7 := Lib.hid (HKJ.out.trans hk7)
        have HS7 := Lib.hid hs7
        clear hk7 hs7 T0 T1
        go_wp2
        go_roundg 5
        case measure => omega
        case rel => exact ⟨1, _, _, V7, by omega, rfl, by go_num, HRV, Lib.hid (fun h => absurd h (by omega)), Lib.hid (fun _ => HC0.out), Lib.hid (HS7.out.mono (by omega) (by omega)), HK7⟩
      by_cases hj1 : j = 1
      · subst hj1
        have T0 : wr.cell? ⟨rb, 1, none⟩ = some (prtV xb 58) := HSK.out.r.cell 1
        have T1 : rb < wr.heap.size := HSK.out.r.lt
        have HPC := Lib.hid (partC2 (w0 := w) (xb := xb) (pb := pb) (lb := lb) HMO.out  d V2 _ _ wr HSJ.out HSK.out.x (by omega) (by have := HN.out; omega) HTJ.out)
        have HRV : Hid (runs ((prts M).drop 2) (pf2 M d).1 (pf2 M d).2 = Q) := Lib.hid HRU.out
        unfold prtV at T0
        go_wp2_with fail
        refine HPC.out.mono ?_
        rintro e w7 ⟨rfl, hk7, V7, hs7⟩
        have HK7 := Lib.hid (HKJ.out.trans hk7)
        have HS7 := Lib.hid hs7
        clear hk7 hs7 T0 T1
        go_wp2
        go_roundg 4
        case measure => omega
        case rel => exact ⟨2, _, _, V7, by omega, rfl, by go_num, HRV, Lib.hid (fun h => absurd h (by omega)), Lib.hid (fun _ => HC0.out), Lib.hid (HS7.out.mono (by omega) (by omega)), HK7⟩
      by_cases hj2 : j = 2
      · subst hj2
        have T0 : wr.cell? ⟨rb, 2, none⟩ = some (prtV xb 59) := HSK.out.r.cell 2
        have T1 : rb < wr.heap.size := HSK.out.r.lt
        have HPC := Lib.hid (partC3 (w0 := w) (xb := xb) (pb := pb) (lb := lb) HMO.out  d V2 _ _ wr HSJ.out HSK.out.x (by omega) (by have := HN.out; omega) HTJ.out)
        have HRV : Hid (runs ((prts M).drop 3) (pf3 M d).1 (pf3 M d).2 = Q) := Lib.hid HRU.out
        unfold prtV at T0
        go_wp2_with fail
        refine HPC.out.mono ?_
        rintro e w7 ⟨rfl, hk7, V7, hs7⟩
        have HK7 := Lib.hid (HKJ.out.trans hk7)
        have HS7 := Lib.hid hs7
        clear hk7 hs7 T0 T1
        go_wp2
        go_roundg 3
        case measure => omega
        case rel => exact ⟨3, _, _, V7, by omega, rfl, by go_num, HRV, Lib.hid (fun h => absurd h (by omega)), Lib.hid (fun _ => HC0.out), Lib.hid (HS7.out.mono (by omega) (by omega)), HK7⟩
      by_cases hj3 : j = 3
      · subst hj3
        have T0 : wr.cell? ⟨rb, 3, none⟩ = some (prtV xb 60) := HSK.out.r.cell 3
        have T1 : rb < wr.heap.size := HSK.out.r.lt
        have HPC := Lib.hid (partC4 (w0 := w) (xb := xb) (pb := pb) (lb := lb) HMO.out  d V2 _ _ wr HSJ.out HSK.out.x (by omega) (by have := HN.out; omega) HTJ.out)
        have HRV : Hid (runs ((prts M).drop 4) (pf4 M d).1 (pf4 M d).2 = Q) := Lib.hid HRU.out
        unfold prtV at T0
        go_wp2_with fail
        refine HPC.out.mono ?_
        rintro e w7 ⟨rfl, hk7, V7, hs7⟩
        have HK7 := Lib.hid (HKJ.out.trans hk7)
        have HS7 := Lib.hid hs7
        clear hk7 hs7 T0 T1
        go_wp2
        go_roundg 2
        case measure => omega
        case rel => exact ⟨4, _, _, V7, by omega, rfl, by go_num, HRV, Lib.hid (fun h => absurd h (by omega)), Lib.hid (fun _ => HC0.out), Lib.hid (HS7.out.mono (by omega) (by omega)), HK7⟩
      by_cases hj4 : j = 4
      · subst hj4
        have T0 : wr.cell? ⟨rb, 4, none⟩ = some (prtV xb 61) := HSK.out.r.cell 4
        have T1 : rb < wr.heap.size := HSK.out.r.lt
        have HPC := Lib.hid (partC5 (w0 := w) (xb := xb) (pb := pb) (lb := lb) HMO.out (chkM_few HC0.out).2 d V2 _ _ wr HSJ.out HSK.out.x (by omega) (by have := HN.out; omega) HTJ.out)
        have HRV : Hid (runs ((prts M).drop 5) (pf5 M d).1 (pf5 M d).2 = Q) := Lib.hid HRU.out
        unfold prtV at T0
        go_wp2_with fail
        refine HPC.out.mono ?_
        rintro e w7 ⟨rfl, hk7, V7, hs7⟩
        have HK7 := Lib.hid (HKJ.out.trans hk7)
        have HS7 := Lib.hid hs7
        clear hk7 hs7 T0 T1
        go_wp2
        go_roundg 1
        case measure => omega
        case rel => exact ⟨5, _, _, V7, by omega, rfl, by go_num, HRV, Lib.hid (fun h => absurd h (by omega)), Lib.hid (fun _ => HC0.out), Lib.hid (HS7.out.mono (by omega) (by omega)), HK7⟩
      by_cases hj5 : j = 5
      · subst hj5
        have T0 : wr.cell? ⟨rb, 5, none⟩ = some (prtV xb 62) := HSK.out.r.cell 5
        have T1 : rb < wr.heap.size := HSK.out.r.lt
        have HPC := Lib.hid (partC6 (w0 := w) (xb := xb) (pb := pb) (lb := lb) HMO.out  d V2 _ _ wr HSJ.out HSK.out.x (by omega) (by have := HN.out; omega) HTJ.out)
        have HRV : Hid (runs ((prts M).drop 6) (pf6 M d).1 (pf6 M d).2 = Q) := Lib.hid HRU.out
        unfold prtV at T0
        go_wp2_with fail
        refine HPC.out.mono ?_
        rintro e w7 ⟨rfl, hk7, V7, hs7⟩
        have HK7 := Lib.hid (HKJ.out.trans hk7)
        have HS7 := Lib.hid hs7
        clear hk7 hs7 T0 T1
        go_wp2
        go_roundg 0
        case measure => omega
        case rel => exact ⟨6, _, _, V7, by omega, rfl, by go_num, HRV, Lib.hid (fun h => absurd h (by omega)), Lib.hid (fun _ => HC0.out), Lib.hid (HS7.out.mono (by omega) (by omega)), HK7⟩
      exact absurd hj (by omega)
  case rest =>
  rename World => wt
  obtain ⟨V2, rfl, HSQ, HKQ⟩ := hcut
  have HST := Lib.hid (HSW.out.kep HKQ.out)
  clear HSW HSP5
  obtain ⟨⟨dq, eq⟩, hQ⟩ : ∃ q, Q = q := ⟨_, rfl⟩
  subst hQ
  dsimp only at HSQ ⊢
  obtain ⟨qb, hqb⟩ : ∃ x, wt.heap.size = x := ⟨_, rfl⟩
  obtain ⟨wu, hwu⟩ : ∃ x, wt.alloc (.cells #[.int .i64 0, .int .i64 0, .slice none 0 0] 41) = x := ⟨_, rfl⟩
  have hbu : Below wt.heap.size wt wu := by rw [← hwu]; exact bAlloc _ _
  have HQB : Hid (Bk qb 41 #[.int .i64 0, .int .i64 0, .slice none 0 0] wu) := Lib.hid (by rw [← hwu, ← hqb]; exact Bk.new _ _ _)
  have HSU := Lib.hid (HSQ.out.below hbu)
  have HSTU := Lib.hid (HST.out.kep (Kep.of_below hbu))
  have HZU : Hid (w.heap.size ≤ wu.heap.size ∧ ob < wu.heap.size ∧ pbx < wu.heap.size) := Lib.hid ⟨HSU.out.be.size, HSTU.out.o.lt, HSTU.out.l.lt⟩
  have HWU := Lib.hid (And.intro hqb hwu)
  clear hbu hqb hwu
  by_cases hq0 : eq = 0
  case neg =>
    have d1 : (eq == 0) = false := beq_eq_false_iff_ne.2 hq0
    have d2 : (eq != 0) = true := by simpa using hq0
    have hR : R = (S, (0, 0, []), eq) := by
      rw [← HR.out]
      unfold stepM
      rw [HCE.out, HQR.out]
      exact if_pos hq0
    subst hR
    clear hq0
    go_upto_if 69 with fail
    rw [HWU.out.1, HWU.out.2]
    obtain ⟨o1, hvb⟩ := HSO.out.be.form
    obtain ⟨o2, hvs⟩ := HSO.out.so.form
    obtain ⟨o3, hvo⟩ := HSO.out.od.form
    have HVV : Hid (V = ⟨.map o1, .map o2, .map o3⟩) := Lib.hid (by rw [← hvb, ← hvs, ← hvo])
    obtain ⟨y, hy⟩ : ∃ y, (((((((((((wu.setCell ⟨ob, 0, none⟩ (.int .i64 S.y)).setCell ⟨ob, 1, none⟩ (.int .i64 S.i)).setCell ⟨ob, 2, none⟩ (.int .i64 S.o)).setCell ⟨ob, 3, none⟩ ((.map o1))).setCell ⟨ob, 4, none⟩ ((.map o2))).setCell ⟨ob, 5, none⟩ (.int .i64 S.tb)).setCell ⟨ob, 6, none⟩ (.int .i64 S.tt)).setCell ⟨ob, 7, none⟩ ((.map o3))).setCell ⟨pbx, 0, none⟩ (.int .i64 0)).setCell ⟨pbx, 1, none⟩ (.int .i64 0)).setCell ⟨pbx, 2, none⟩ (.slice none 0 0)) = y := ⟨_, rfl⟩
    have hky : Bk ob 33 #[.int .i64 S.y, .int .i64 S.i, .int .i64 S.o, .map o1, .map o2, .int .i64 S.tb, .int .i64 S.tt, .map o3] y := by rw [← hy]; exact bkSetO (bkSetO (bkSetO (bk_set8 (u0 := .int .i64 S.y) (u1 := .int .i64 S.i) (u2 := .int .i64 S.o) (u3 := (.map o1)) (u4 := (.map o2)) (u5 := .int .i64 S.tb) (u6 := .int .i64 S.tt) (u7 := (.map o3)) HSTU.out.o) (by have := HSTU.out.ne; omega) _ _) (by have := HSTU.out.ne; omega) _ _) (by have := HSTU.out.ne; omega) _ _
    have hkl : Bk pbx 41 #[.int .i64 0, .int .i64 0, .slice none 0 0] y := by rw [← hy]; exact bk_set3 (bk_setO8 HSTU.out.l (by have := HSTU.out.ne; omega) (.int .i64 S.y) (.int .i64 S.i) (.int .i64 S.o) (.map o1) (.map o2) (.int .i64 S.tb) (.int .i64 S.tt) (.map o3)) _ _ _
    have HBY : Hid (Below w.heap.size w y) := Lib.hid (by rw [← hy]; exact below_set3 (below_set8 HSU.out.be (by have := HSTU.out.ne; omega) (.int .i64 S.y) (.int .i64 S.i) (.int .i64 S.o) (.map o1) (.map o2) (.int .i64 S.tb) (.int .i64 S.tt) (.map o3)) (by have := HSTU.out.ne; omega) _ _ _)
    have r0 : y.cell? ⟨ob, 0, none⟩ = some (.int .i64 S.y) := hky.cell 0
    have r1 : y.cell? ⟨ob, 1, none⟩ = some (.int .i64 S.i) := hky.cell 1
    have r2 : y.cell? ⟨ob, 2, none⟩ = some (.int .i64 S.o) := hky.cell 2
    have r3 : y.cell? ⟨ob, 3, none⟩ = some ((.map o1)) := hky.cell 3
    have r4 : y.cell? ⟨ob, 4, none⟩ = some ((.map o2)) := hky.cell 4
    have r5 : y.cell? ⟨ob, 5, none⟩ = some (.int .i64 S.tb) := hky.cell 5
    have r6 : y.cell? ⟨ob, 6, none⟩ = some (.int .i64 S.tt) := hky.cell 6
    have r7 : y.cell? ⟨ob, 7, none⟩ = some ((.map o3)) := hky.cell 7
    have s0 : y.cell? ⟨pbx, 0, none⟩ = some (.int .i64 0) := hkl.cell 0
    have s1 : y.cell? ⟨pbx, 1, none⟩ = some (.int .i64 0) := hkl.cell 1
    have s2 : y.cell? ⟨pbx, 2, none⟩ = some (.slice none 0 0) := hkl.cell 2
    have p0 : wu.cell? ⟨sb, 0, none⟩ = some (.int .i64 S.y) := HSTU.out.s.cell 0
    have p1 : wu.cell? ⟨sb, 1, none⟩ = some (.int .i64 S.i) := HSTU.out.s.cell 1
    have p2 : wu.cell? ⟨sb, 2, none⟩ = some (.int .i64 S.o) := HSTU.out.s.cell 2
    have p3 : wu.cell? ⟨sb, 3, none⟩ = some ((.map o1)) := by rw [← hvb]; exact HSTU.out.s.cell 3
    have p4 : wu.cell? ⟨sb, 4, none⟩ = some ((.map o2)) := by rw [← hvs]; exact HSTU.out.s.cell 4
    have p5 : wu.cell? ⟨sb, 5, none⟩ = some (.int .i64 S.tb) := HSTU.out.s.cell 5
    have p6 : wu.cell? ⟨sb, 6, none⟩ = some (.int .i64 S.tt) := HSTU.out.s.cell 6
    have p7 : wu.cell? ⟨sb, 7, none⟩ = some ((.map o3)) := by rw [← hvo]; exact HSTU.out.s.cell 7
    have q0 : wu.cell? ⟨ob, 0, none⟩ = some (.int .i64 0) := HSTU.out.o.cell 0
    have f0 : wu.frozen? ⟨ob, 0, none⟩ = false := HSTU.out.o.frozen 0
    have q1 : wu.cell? ⟨ob, 1, none⟩ = some (.int .i64 0) := HSTU.out.o.cell 1
    have f1 : wu.frozen? ⟨ob, 1, none⟩ = false := HSTU.out.o.frozen 1
    have q2 : wu.cell? ⟨ob, 2, none⟩ = some (.int .i64 0) := HSTU.out.o.cell 2
    have f2 : wu.frozen? ⟨ob, 2, none⟩ = false := HSTU.out.o.frozen 2
    have q3 : wu.cell? ⟨ob, 3, none⟩ = some (.map none) := HSTU.out.o.cell 3
    have f3 : wu.frozen? ⟨ob, 3, none⟩ = false := HSTU.out.o.frozen 3
    have q4 : wu.cell? ⟨ob, 4, none⟩ = some (.map none) := HSTU.out.o.cell 4
    have f4 : wu.frozen? ⟨ob, 4, none⟩ = false := HSTU.out.o.frozen 4
    have q5 : wu.cell? ⟨ob, 5, none⟩ = some (.int .i64 0) := HSTU.out.o.cell 5
    have f5 : wu.frozen? ⟨ob, 5, none⟩ = false := HSTU.out.o.frozen 5
    have q6 : wu.cell? ⟨ob, 6, none⟩ = some (.int .i64 0) := HSTU.out.o.cell 6
    have f6 : wu.frozen? ⟨ob, 6, none⟩ = false := HSTU.out.o.frozen 6
    have q7 : wu.cell? ⟨ob, 7, none⟩ = some (.map none) := HSTU.out.o.cell 7
    have f7 : wu.frozen? ⟨ob, 7, none⟩ = false := HSTU.out.o.frozen 7
    have t0 : wu.cell? ⟨pbx, 0, none⟩ = some (.int .i64 0) := HSTU.out.l.cell 0
    have g0 : wu.frozen? ⟨pbx, 0, none⟩ = false := HSTU.out.l.frozen 0
    have t1 : wu.cell? ⟨pbx, 1, none⟩ = some (.int .i64 0) := HSTU.out.l.cell 1
    have g1 : wu.frozen? ⟨pbx, 1, none⟩ = false := HSTU.out.l.frozen 1
    have t2 : wu.cell? ⟨pbx, 2, none⟩ = some (.slice none 0 0) := HSTU.out.l.cell 2
    have g2 : wu.frozen? ⟨pbx, 2, none⟩ = false := HSTU.out.l.frozen 2
    have no1 : ob ≠ pbx := by have := HSTU.out.ne; omega
    clear hky hkl
    have HYS : Hid (StOk S ⟨.map o1, .map o2, .map o3⟩ (n + 384) y) := Lib.hid (by rw [← HVV.out]; exact (HSO.out.below HBY.out).mono (by omega))
    clear hvb hvs hvo HSQ HSU
    go_wp2
    rw [Exit.noGoto_ret]
    exact bodyPost_ret (v := .tuple #[.agg #[.int .i64 S.y, .int .i64 S.i, .int .i64 S.o, .map o1, .map o2, .int .i64 S.tb, .int .i64 S.tt, .map o3], .agg #[.int .i64 0, .int .i64 0, .slice none 0 0], .int .i64 eq]) (by simp [results, Tryz.results16, go_sem, r0, r1, r2, r3, r4, r5, r6, r7, s0, s1, s2]) rfl ⟨⟨.map o1, .map o2, .map o3⟩, _, rfl, Own.nil _, HYS.out, HBY.out⟩
  case pos =>
  subst hq0
  obtain ⟨⟨sl, se⟩, hse⟩ : ∃ z, slpR dq.ln = z := ⟨_, rfl⟩
  have HSE := Lib.hid hse
  have HSZ : Hid (∀ x ∈ sl, x.2.1.size ≤ 32) := Lib.hid (by have := slpS_sz (m := dq.ln); rw [hse] at this; exact this)
  obtain ⟨ye, hye⟩ : ∃ z, (if se = 0 then M.y else 0) = z := ⟨_, rfl⟩
  obtain ⟨ie, hie⟩ : ∃ z, (if se = 0 then M.i else 0) = z := ⟨_, rfl⟩
  have HYE := Lib.hid (And.intro hye hie)
  have HSL : Hid (Calls Tryz.prog 34 #[.pointer (some ⟨pb, 0, none⟩)] wu fun e w' => ∃ v, e = .returned (.tuple #[.agg #[.int .i64 ye, .int .i64 ie, v], .int .i64 se]) ∧ Own encLi 3 44 wu.heap.size v sl w' ∧ sl.length ≤ 768 ∧ Below wu.heap.size wu w') := Lib.hid (by
    have h := yr_slip (sgO dq V2 M A lb) pb dq.ln 768 wu HSU.out.bk HSU.out.om (by omega)
    rw [hse] at h
    rw [← hye, ← hie]
    exact h)
  clear hye hie
  clear hse
  go_upto_if 69 with fail
  rw [HWU.out.1, HWU.out.2]
  go_wp2_with fail
  refine HSL.out.mono ?_
  rintro e w6 ⟨v, rfl, how, hle, hb6⟩
  obtain ⟨Av, cv, rfl, hsl⟩ := Own.val (enc := encLi) (k := 3) (fun _ => rfl) how
  obtain ⟨nl, hnl⟩ : ∃ z, sl.length = z := ⟨_, rfl⟩
  rw [hnl] at how hle ⊢
  have hq6 := bkBel HQB.out hb6
  obtain ⟨w7, hw7⟩ : ∃ x, ((w6.setCell ⟨qb, 0, none⟩ (.int .i64 ye)).setCell ⟨qb, 1, none⟩ (.int .i64 ie)).setCell ⟨qb, 2, none⟩ (.slice Av nl cv) = x := ⟨_, rfl⟩
  have hq7 : Bk qb 41 #[.int .i64 ye, .int .i64 ie, .slice Av nl cv] w7 := by rw [← hw7]; exact bk_set3 hq6 _ _ _
  have hk7 : Kep qb qb w6 w7 := by rw [← hw7]; exact ((Kep.set _ _ _).trans (Kep.set _ _ _)).trans (Kep.set _ _ _)
  have hlq := HST.out.x.lt
  have hlr := HST.out.r.lt
  have hqz := HWU.out.1
  have hb7 : Below w.heap.size w w7 := by
    have hz := (HST.out.ne)
    have h0 := bTrans HSU.out.be hb6
    rw [← hw7]
    exact below_set3 h0 (by omega) _ _ _
  have HB7 := Lib.hid hb7
  have HST7 : Hid (StW w sb mb ob pbx xb rb pb lb S V M A w7) := Lib.hid ((HSTU.out.kep (Kep.of_below hb6)).kq hk7 (by omega) (by omega))
  have HSQ7 : Hid (Bk pb 95 (spC (sgO dq V2 M A lb)) w7 ∧ MpC dq.S.be (n + 384) V2.be w7 ∧ MpS dq.S.so (n + 384) V2.so w7 ∧ MpC dq.S.od (n + 384) V2.od w7) := Lib.hid (by
    have h6 := HSU.out.below hb6
    have hz := HST.out.ne
    have n1 : ∀ {κ β : Type} {K : TypeId} {kl : κ → Lit} {enc : β → Value} {m : Ass κ β} {v : Value}, MapV K kl enc m (n + 384) v w6 → v ≠ .map (some qb) := fun h => mapNePb h hq6
    exact ⟨hk7.bk h6.bk (by omega) (by omega), hk7.map h6.mb (n1 h6.mb) (n1 h6.mb), hk7.map h6.ms (n1 h6.ms) (n1 h6.ms), hk7.map h6.mo (n1 h6.mo) (n1 h6.mo)⟩)
  have HOW7 : Hid (Own encLi 3 44 wu.heap.size (.slice Av nl cv) sl w7 ∧ Sl encLi 3 w7 w7.heap.size Av sl) := Lib.hid (by
    have hqu : qb < wu.heap.size := HQB.out.lt
    refine ⟨how.kept (r := some qb) ⟨hk7.os, hk7.tape, hk7.output, hk7.size, fun i hi h => hk7.block i hi (by simpa using h) (by simpa using h)⟩ (Or.inr (Ne.symm (how.far hqu))), hsl w7 hk7.size (fun g hg1 hg2 => hk7.block g hg2 (by omega) (by omega))⟩)
  have HQ7 := Lib.hid hq7
  have HNL := Lib.hid (And.intro hnl hle)
  have c0 : w6.cell? ⟨qb, 0, none⟩ = some (.int .i64 0) := hq6.cell 0
  have c1 : w6.cell? ⟨qb, 1, none⟩ = some (.int .i64 0) := hq6.cell 1
  have c2 : w6.cell? ⟨qb, 2, none⟩ = some (.slice none 0 0) := hq6.cell 2
  have k0 : w6.frozen? ⟨qb, 0, none⟩ = false := hq6.frozen 0
  have k1 : w6.frozen? ⟨qb, 1, none⟩ = false := hq6.frozen 1
  have k2 : w6.frozen? ⟨qb, 2, none⟩ = false := hq6.frozen 2
  clear hb6 hle hnl hsl how hq6 hq7 hk7 hlq hlr hqz hb7 HSL HSQ HSU HST HSTU HWU
  by_cases hs0 : se = 0
  case neg =>
    have d1 : (se == 0) = false := beq_eq_false_iff_ne.2 hs0
    have d2 : (se != 0) = true := by simpa using hs0
    have hR : R = (S, (0, 0, []), se) := by
      rw [← HR.out]
      unfold stepM
      rw [HCE.out, HQR.out]
      dsimp only
      rw [if_neg (by simp), HSE.out]
      exact if_pos hs0
    subst hR
    clear hs0
    obtain ⟨o1, hvb⟩ := HSO.out.be.form
    obtain ⟨o2, hvs⟩ := HSO.out.so.form
    obtain ⟨o3, hvo⟩ := HSO.out.od.form
    have HVV : Hid (V = ⟨.map o1, .map o2, .map o3⟩) := Lib.hid (by rw [← hvb, ← hvs, ← hvo])
    obtain ⟨y, hy⟩ : ∃ y, (((((((((((w7.setCell ⟨ob, 0, none⟩ (.int .i64 S.y)).setCell ⟨ob, 1, none⟩ (.int .i64 S.i)).setCell ⟨ob, 2, none⟩ (.int .i64 S.o)).setCell ⟨ob, 3, none⟩ ((.map o1))).setCell ⟨ob, 4, none⟩ ((.map o2))).setCell ⟨ob, 5, none⟩ (.int .i64 S.tb)).setCell ⟨ob, 6, none⟩ (.int .i64 S.tt)).setCell ⟨ob, 7, none⟩ ((.map o3))).setCell ⟨pbx, 0, none⟩ (.int .i64 0)).setCell ⟨pbx, 1, none⟩ (.int .i64 0)).setCell ⟨pbx, 2, none⟩ (.slice none 0 0)) = y := ⟨_, rfl⟩
    have hky : Bk ob 33 #[.int .i64 S.y, .int .i64 S.i, .int .i64 S.o, .map o1, .map o2, .int .i64 S.tb, .int .i64 S.tt, .map o3] y := by rw [← hy]; exact bkSetO (bkSetO (bkSetO (bk_set8 (u0 := .int .i64 S.y) (u1 := .int .i64 S.i) (u2 := .int .i64 S.o) (u3 := (.map o1)) (u4 := (.map o2)) (u5 := .int .i64 S.tb) (u6 := .int .i64 S.tt) (u7 := (.map o3)) HST7.out.o) (by have := HST7.out.ne; omega) _ _) (by have := HST7.out.ne; omega) _ _) (by have := HST7.out.ne; omega) _ _
    have hkl : Bk pbx 41 #[.int .i64 0, .int .i64 0, .slice none 0 0] y := by rw [← hy]; exact bk_set3 (bk_setO8 HST7.out.l (by have := HST7.out.ne; omega) (.int .i64 S.y) (.int .i64 S.i) (.int .i64 S.o) (.map o1) (.map o2) (.int .i64 S.tb) (.int .i64 S.tt) (.map o3)) _ _ _
    have HBY : Hid (Below w.heap.size w y) := Lib.hid (by rw [← hy]; exact below_set3 (below_set8 HB7.out (by have := HST7.out.ne; omega) (.int .i64 S.y) (.int .i64 S.i) (.int .i64 S.o) (.map o1) (.map o2) (.int .i64 S.tb) (.int .i64 S.tt) (.map o3)) (by have := HST7.out.ne; omega) _ _ _)
    have r0 : y.cell? ⟨ob, 0, none⟩ = some (.int .i64 S.y) := hky.cell 0
    have r1 : y.cell? ⟨ob, 1, none⟩ = some (.int .i64 S.i) := hky.cell 1
    have r2 : y.cell? ⟨ob, 2, none⟩ = some (.int .i64 S.o) := hky.cell 2
    have r3 : y.cell? ⟨ob, 3, none⟩ = some ((.map o1)) := hky.cell 3
    have r4 : y.cell? ⟨ob, 4, none⟩ = some ((.map o2)) := hky.cell 4
    have r5 : y.cell? ⟨ob, 5, none⟩ = some (.int .i64 S.tb) := hky.cell 5
    have r6 : y.cell? ⟨ob, 6, none⟩ = some (.int .i64 S.tt) := hky.cell 6
    have r7 : y.cell? ⟨ob, 7, none⟩ = some ((.map o3)) := hky.cell 7
    have s0 : y.cell? ⟨pbx, 0, none⟩ = some (.int .i64 0) := hkl.cell 0
    have s1 : y.cell? ⟨pbx, 1, none⟩ = some (.int .i64 0) := hkl.cell 1
    have s2 : y.cell? ⟨pbx, 2, none⟩ = some (.slice none 0 0) := hkl.cell 2
    have p0 : w7.cell? ⟨sb, 0, none⟩ = some (.int .i64 S.y) := HST7.out.s.cell 0
    have p1 : w7.cell? ⟨sb, 1, none⟩ = some (.int .i64 S.i) := HST7.out.s.cell 1
    have p2 : w7.cell? ⟨sb, 2, none⟩ = some (.int .i64 S.o) := HST7.out.s.cell 2
    have p3 : w7.cell? ⟨sb, 3, none⟩ = some ((.map o1)) := by rw [← hvb]; exact HST7.out.s.cell 3
    have p4 : w7.cell? ⟨sb, 4, none⟩ = some ((.map o2)) := by rw [← hvs]; exact HST7.out.s.cell 4
    have p5 : w7.cell? ⟨sb, 5, none⟩ = some (.int .i64 S.tb) := HST7.out.s.cell 5
    have p6 : w7.cell? ⟨sb, 6, none⟩ = some (.int .i64 S.tt) := HST7.out.s.cell 6
    have p7 : w7.cell? ⟨sb, 7, none⟩ = some ((.map o3)) := by rw [← hvo]; exact HST7.out.s.cell 7
    have q0 : w7.cell? ⟨ob, 0, none⟩ = some (.int .i64 0) := HST7.out.o.cell 0
    have f0 : w7.frozen? ⟨ob, 0, none⟩ = false := HST7.out.o.frozen 0
    have q1 : w7.cell? ⟨ob, 1, none⟩ = some (.int .i64 0) := HST7.out.o.cell 1
    have f1 : w7.frozen? ⟨ob, 1, none⟩ = false := HST7.out.o.frozen 1
    have q2 : w7.cell? ⟨ob, 2, none⟩ = some (.int .i64 0) := HST7.out.o.cell 2
    have f2 : w7.frozen? ⟨ob, 2, none⟩ = false := HST7.out.o.frozen 2
    have q3 : w7.cell? ⟨ob, 3, none⟩ = some (.map none) := HST7.out.o.cell 3
    have f3 : w7.frozen? ⟨ob, 3, none⟩ = false := HST7.out.o.frozen 3
    have q4 : w7.cell? ⟨ob, 4, none⟩ = some (.map none) := HST7.out.o.cell 4
    have f4 : w7.frozen? ⟨ob, 4, none⟩ = false := HST7.out.o.frozen 4
    have q5 : w7.cell? ⟨ob, 5, none⟩ = some (.int .i64 0) := HST7.out.o.cell 5
    have f5 : w7.frozen? ⟨ob, 5, none⟩ = false := HST7.out.o.frozen 5
    have q6 : w7.cell? ⟨ob, 6, none⟩ = some (.int .i64 0) := HST7.out.o.cell 6
    have f6 : w7.frozen? ⟨ob, 6, none⟩ = false := HST7.out.o.frozen 6
    have q7 : w7.cell? ⟨ob, 7, none⟩ = some (.map none) := HST7.out.o.cell 7
    have f7 : w7.frozen? ⟨ob, 7, none⟩ = false := HST7.out.o.frozen 7
    have t0 : w7.cell? ⟨pbx, 0, none⟩ = some (.int .i64 0) := HST7.out.l.cell 0
    have g0 : w7.frozen? ⟨pbx, 0, none⟩ = false := HST7.out.l.frozen 0
    have t1 : w7.cell? ⟨pbx, 1, none⟩ = some (.int .i64 0) := HST7.out.l.cell 1
    have g1 : w7.frozen? ⟨pbx, 1, none⟩ = false := HST7.out.l.frozen 1
    have t2 : w7.cell? ⟨pbx, 2, none⟩ = some (.slice none 0 0) := HST7.out.l.cell 2
    have g2 : w7.frozen? ⟨pbx, 2, none⟩ = false := HST7.out.l.frozen 2
    have no1 : ob ≠ pbx := by have := HST7.out.ne; omega
    clear hky hkl
    have HYS : Hid (StOk S ⟨.map o1, .map o2, .map o3⟩ (n + 384) y) := Lib.hid (by rw [← HVV.out]; exact (HSO.out.below HBY.out).mono (by omega))
    clear hvb hvs hvo HSQ7
    go_wp2
    rw [Exit.noGoto_ret]
    exact bodyPost_ret (v := .tuple #[.agg #[.int .i64 S.y, .int .i64 S.i, .int .i64 S.o, .map o1, .map o2, .int .i64 S.tb, .int .i64 S.tt, .map o3], .agg #[.int .i64 0, .int .i64 0, .slice none 0 0], .int .i64 se]) (by simp [results, Tryz.results16, go_sem, r0, r1, r2, r3, r4, r5, r6, r7, s0, s1, s2]) rfl ⟨⟨.map o1, .map o2, .map o3⟩, _, rfl, Own.nil _, HYS.out, HBY.out⟩
  case pos =>
  subst hs0
  obtain ⟨hye, hie⟩ := HYE.out
  rw [if_pos rfl] at hye hie
  subst hye hie
  clear HYE
  obtain ⟨ck, hck⟩ : ∃ z, slpE M.y M.i sl = z := ⟨_, rfl⟩
  have HCK : Hid (Calls Tryz.prog 13 #[.agg #[.int .i64 M.y, .int .i64 M.i, .slice Av nl cv]] w7 fun e w' => e = .returned (.int .i64 ck) ∧ Below w7.heap.size w7 w') := Lib.hid (by
    have hq := HNL.out
    have := sl_Check M.y M.i sl Av cv w7 (by omega) (fun x hx => by have := HSZ.out x hx; omega) HOW7.out.2
    rw [hck, hq.1] at this
    exact this)
  have HCKE := Lib.hid hck
  have m0 : w7.cell? ⟨qb, 0, none⟩ = some (.int .i64 M.y) := HQ7.out.cell 0
  have m1 : w7.cell? ⟨qb, 1, none⟩ = some (.int .i64 M.i) := HQ7.out.cell 1
  have m2 : w7.cell? ⟨qb, 2, none⟩ = some (.slice Av nl cv) := HQ7.out.cell 2
  clear hck
  go_wp2_with fail
  refine HCK.out.mono ?_
  rintro e w8 ⟨rfl, hb8⟩
  have HST8 := Lib.hid (HST7.out.kep (Kep.of_below hb8))
  have HB8 := Lib.hid (bTrans HB7.out hb8)
  have HQ8 := Lib.hid (bkBel HQ7.out hb8)
  have HSQ8 : Hid (Bk pb 95 (spC (sgO dq V2 M A lb)) w8 ∧ MpC dq.S.be (n + 384) V2.be w8 ∧ MpS dq.S.so (n + 384) V2.so w8 ∧ MpC dq.S.od (n + 384) V2.od w8) := Lib.hid ⟨bkBel HSQ7.out.1 hb8, HSQ7.out.2.1.below hb8, HSQ7.out.2.2.1.below hb8, HSQ7.out.2.2.2.below hb8⟩
  have HOW8 : Hid (Own encLi 3 44 wu.heap.size (.slice Av nl cv) sl w8) := Lib.hid (HOW7.out.1.none_ ⟨hb8.os, hb8.tape, hb8.output, hb8.size, fun i hi _ => hb8.block i hi⟩)
  clear hb8 c0 c1 c2 k0 k1 k2 m0 m1 m2 hw7 HSQ7 HOW7 HST7 HB7 HQ7 HCK
  by_cases hc0 : ck = 0
  case neg =>
    have d2 : (ck != 0) = true := by simpa using hc0
    have hR : R = (S, (0, 0, []), ck) := by
      rw [← HR.out]
      unfold stepM
      rw [HCE.out, HQR.out]
      dsimp only
      rw [if_neg (by simp), HSE.out]
      dsimp only
      rw [if_neg (by simp), HCKE.out]
      exact if_pos hc0
    subst hR
    clear hc0
    obtain ⟨o1, hvb⟩ := HSO.out.be.form
    obtain ⟨o2, hvs⟩ := HSO.out.so.form
    obtain ⟨o3, hvo⟩ := HSO.out.od.form
    have HVV : Hid (V = ⟨.map o1, .map o2, .map o3⟩) := Lib.hid (by rw [← hvb, ← hvs, ← hvo])
    obtain ⟨y, hy⟩ : ∃ y, (((((((((((w8.setCell ⟨ob, 0, none⟩ (.int .i64 S.y)).setCell ⟨ob, 1, none⟩ (.int .i64 S.i)).setCell ⟨ob, 2, none⟩ (.int .i64 S.o)).setCell ⟨ob, 3, none⟩ ((.map o1))).setCell ⟨ob, 4, none⟩ ((.map o2))).setCell ⟨ob, 5, none⟩ (.int .i64 S.tb)).setCell ⟨ob, 6, none⟩ (.int .i64 S.tt)).setCell ⟨ob, 7, none⟩ ((.map o3))).setCell ⟨pbx, 0, none⟩ (.int .i64 0)).setCell ⟨pbx, 1, none⟩ (.int .i64 0)).setCell ⟨pbx, 2, none⟩ (.slice none 0 0)) = y := ⟨_, rfl⟩
    have hky : Bk ob 33 #[.int .i64 S.y, .int .i64 S.i, .int .i64 S.o, .map o1, .map o2, .int .i64 S.tb, .int .i64 S.tt, .map o3] y := by rw [← hy]; exact bkSetO (bkSetO (bkSetO (bk_set8 (u0 := .int .i64 S.y) (u1 := .int .i64 S.i) (u2 := .int .i64 S.o) (u3 := (.map o1)) (u4 := (.map o2)) (u5 := .int .i64 S.tb) (u6 := .int .i64 S.tt) (u7 := (.map o3)) HST8.out.o) (by have := HST8.out.ne; omega) _ _) (by have := HST8.out.ne; omega) _ _) (by have := HST8.out.ne; omega) _ _
    have hkl : Bk pbx 41 #[.int .i64 0, .int .i64 0, .slice none 0 0] y := by rw [← hy]; exact bk_set3 (bk_setO8 HST8.out.l (by have := HST8.out.ne; omega) (.int .i64 S.y) (.int .i64 S.i) (.int .i64 S.o) (.map o1) (.map o2) (.int .i64 S.tb) (.int .i64 S.tt) (.map o3)) _ _ _
    have HBY : Hid (Below w.heap.size w y) := Lib.hid (by rw [← hy]; exact below_set3 (below_set8 HB8.out (by have := HST8.out.ne; omega) (.int .i64 S.y) (.int .i64 S.i) (.int .i64 S.o) (.map o1) (.map o2) (.int .i64 S.tb) (.int .i64 S.tt) (.map o3)) (by have := HST8.out.ne; omega) _ _ _)
    have r0 : y.cell? ⟨ob, 0, none⟩ = some (.int .i64 S.y) := hky.cell 0
    have r1 : y.cell? ⟨ob, 1, none⟩ = some (.int .i64 S.i) := hky.cell 1
    have r2 : y.cell? ⟨ob, 2, none⟩ = some (.int .i64 S.o) := hky.cell 2
    have r3 : y.cell? ⟨ob, 3, none⟩ = some ((.map o1)) := hky.cell 3
    have r4 : y.cell? ⟨ob, 4, none⟩ = some ((.map o2)) := hky.cell 4
    have r5 : y.cell? ⟨ob, 5, none⟩ = some (.int .i64 S.tb) := hky.cell 5
    have r6 : y.cell? ⟨ob, 6, none⟩ = some (.int .i64 S.tt) := hky.cell 6
    have r7 : y.cell? ⟨ob, 7, none⟩ = some ((.map o3)) := hky.cell 7
    have s0 : y.cell? ⟨pbx, 0, none⟩ = some (.int .i64 0) := hkl.cell 0
    have s1 : y.cell? ⟨pbx, 1, none⟩ = some (.int .i64 0) := hkl.cell 1
    have s2 : y.cell? ⟨pbx, 2, none⟩ = some (.slice none 0 0) := hkl.cell 2
    have p0 : w8.cell? ⟨sb, 0, none⟩ = some (.int .i64 S.y) := HST8.out.s.cell 0
    have p1 : w8.cell? ⟨sb, 1, none⟩ = some (.int .i64 S.i) := HST8.out.s.cell 1
    have p2 : w8.cell? ⟨sb, 2, none⟩ = some (.int .i64 S.o) := HST8.out.s.cell 2
    have p3 : w8.cell? ⟨sb, 3, none⟩ = some ((.map o1)) := by rw [← hvb]; exact HST8.out.s.cell 3
    have p4 : w8.cell? ⟨sb, 4, none⟩ = some ((.map o2)) := by rw [← hvs]; exact HST8.out.s.cell 4
    have p5 : w8.cell? ⟨sb, 5, none⟩ = some (.int .i64 S.tb) := HST8.out.s.cell 5
    have p6 : w8.cell? ⟨sb, 6, none⟩ = some (.int .i64 S.tt) := HST8.out.s.cell 6
    have p7 : w8.cell? ⟨sb, 7, none⟩ = some ((.map o3)) := by rw [← hvo]; exact HST8.out.s.cell 7
    have q0 : w8.cell? ⟨ob, 0, none⟩ = some (.int .i64 0) := HST8.out.o.cell 0
    have f0 : w8.frozen? ⟨ob, 0, none⟩ = false := HST8.out.o.frozen 0
    have q1 : w8.cell? ⟨ob, 1, none⟩ = some (.int .i64 0) := HST8.out.o.cell 1
    have f1 : w8.frozen? ⟨ob, 1, none⟩ = false := HST8.out.o.frozen 1
    have q2 : w8.cell? ⟨ob, 2, none⟩ = some (.int .i64 0) := HST8.out.o.cell 2
    have f2 : w8.frozen? ⟨ob, 2, none⟩ = false := HST8.out.o.frozen 2
    have q3 : w8.cell? ⟨ob, 3, none⟩ = some (.map none) := HST8.out.o.cell 3
    have f3 : w8.frozen? ⟨ob, 3, none⟩ = false := HST8.out.o.frozen 3
    have q4 : w8.cell? ⟨ob, 4, none⟩ = some (.map none) := HST8.out.o.cell 4
    have f4 : w8.frozen? ⟨ob, 4, none⟩ = false := HST8.out.o.frozen 4
    have q5 : w8.cell? ⟨ob, 5, none⟩ = some (.int .i64 0) := HST8.out.o.cell 5
    have f5 : w8.frozen? ⟨ob, 5, none⟩ = false := HST8.out.o.frozen 5
    have q6 : w8.cell? ⟨ob, 6, none⟩ = some (.int .i64 0) := HST8.out.o.cell 6
    have f6 : w8.frozen? ⟨ob, 6, none⟩ = false := HST8.out.o.frozen 6
    have q7 : w8.cell? ⟨ob, 7, none⟩ = some (.map none) := HST8.out.o.cell 7
    have f7 : w8.frozen? ⟨ob, 7, none⟩ = false := HST8.out.o.frozen 7
    have t0 : w8.cell? ⟨pbx, 0, none⟩ = some (.int .i64 0) := HST8.out.l.cell 0
    have g0 : w8.frozen? ⟨pbx, 0, none⟩ = false := HST8.out.l.frozen 0
    have t1 : w8.cell? ⟨pbx, 1, none⟩ = some (.int .i64 0) := HST8.out.l.cell 1
    have g1 : w8.frozen? ⟨pbx, 1, none⟩ = false := HST8.out.l.frozen 1
    have t2 : w8.cell? ⟨pbx, 2, none⟩ = some (.slice none 0 0) := HST8.out.l.cell 2
    have g2 : w8.frozen? ⟨pbx, 2, none⟩ = false := HST8.out.l.frozen 2
    have no1 : ob ≠ pbx := by have := HST8.out.ne; omega
    clear hky hkl
    have HYS : Hid (StOk S ⟨.map o1, .map o2, .map o3⟩ (n + 384) y) := Lib.hid (by rw [← HVV.out]; exact (HSO.out.below HBY.out).mono (by omega))
    clear hvb hvs hvo HSQ8
    go_wp2
    rw [Exit.noGoto_ret]
    exact bodyPost_ret (v := .tuple #[.agg #[.int .i64 S.y, .int .i64 S.i, .int .i64 S.o, .map o1, .map o2, .int .i64 S.tb, .int .i64 S.tt, .map o3], .agg #[.int .i64 0, .int .i64 0, .slice none 0 0], .int .i64 ck]) (by simp [results, Tryz.results16, go_sem, r0, r1, r2, r3, r4, r5, r6, r7, s0, s1, s2]) rfl ⟨⟨.map o1, .map o2, .map o3⟩, _, rfl, Own.nil _, HYS.out, HBY.out⟩
  case pos =>
  subst hc0
  have d2 : ((0 : Int) != 0) = false := rfl
  have hR : R = (dq.S, (M.y, M.i, sl), 0) := by
    rw [← HR.out]
    unfold stepM
    rw [HCE.out, HQR.out]
    dsimp only
    rw [if_neg (by simp), HSE.out]
    dsimp only
    rw [if_neg (by simp), HCKE.out]
    exact if_neg (by simp)
  subst hR
  obtain ⟨o1, hvb⟩ := HSQ8.out.2.1.form
  obtain ⟨o2, hvs⟩ := HSQ8.out.2.2.1.form
  obtain ⟨o3, hvo⟩ := HSQ8.out.2.2.2.form
  have HVV : Hid (V2 = ⟨.map o1, .map o2, .map o3⟩) := Lib.hid (by rw [← hvb, ← hvs, ← hvo])
  obtain ⟨y, hy⟩ : ∃ y, (((((((((((w8.setCell ⟨ob, 0, none⟩ (.int .i64 dq.S.y)).setCell ⟨ob, 1, none⟩ (.int .i64 dq.S.i)).setCell ⟨ob, 2, none⟩ (.int .i64 dq.S.o)).setCell ⟨ob, 3, none⟩ (.map o1)).setCell ⟨ob, 4, none⟩ (.map o2)).setCell ⟨ob, 5, none⟩ (.int .i64 dq.S.tb)).setCell ⟨ob, 6, none⟩ (.int .i64 dq.S.tt)).setCell ⟨ob, 7, none⟩ (.map o3)).setCell ⟨pbx, 0, none⟩ (.int .i64 M.y)).setCell ⟨pbx, 1, none⟩ (.int .i64 M.i)).setCell ⟨pbx, 2, none⟩ (.slice Av nl cv)).drew = y := ⟨_, rfl⟩
  have hky : Bk ob 33 #[.int .i64 dq.S.y, .int .i64 dq.S.i, .int .i64 dq.S.o, .map o1, .map o2, .int .i64 dq.S.tb, .int .i64 dq.S.tt, .map o3] y := by rw [← hy]; exact bkBel (bkSetO (bkSetO (bkSetO (bk_set8 (u0 := .int .i64 dq.S.y) (u1 := .int .i64 dq.S.i) (u2 := .int .i64 dq.S.o) (u3 := .map o1) (u4 := .map o2) (u5 := .int .i64 dq.S.tb) (u6 := .int .i64 dq.S.tt) (u7 := .map o3) HST8.out.o) (by have := HST8.out.ne; omega) _ _) (by have := HST8.out.ne; omega) _ _) (by have := HST8.out.ne; omega) _ _) (bDrew _)
  have hkl : Bk pbx 41 #[.int .i64 M.y, .int .i64 M.i, .slice Av nl cv] y := by rw [← hy]; exact bkBel (bk_set3 (bk_setO8 HST8.out.l (by have := HST8.out.ne; omega) (.int .i64 dq.S.y) (.int .i64 dq.S.i) (.int .i64 dq.S.o) (.map o1) (.map o2) (.int .i64 dq.S.tb) (.int .i64 dq.S.tt) (.map o3)) _ _ _) (bDrew _)
  have HBY : Hid (Below w.heap.size w y) := Lib.hid (by rw [← hy]; exact bTrans (below_set3 (below_set8 HB8.out (by have := HST8.out.ne; omega) (.int .i64 dq.S.y) (.int .i64 dq.S.i) (.int .i64 dq.S.o) (.map o1) (.map o2) (.int .i64 dq.S.tb) (.int .i64 dq.S.tt) (.map o3)) (by have := HST8.out.ne; omega) _ _ _) (bDrew _))
  have r0 : y.cell? ⟨ob, 0, none⟩ = some (.int .i64 dq.S.y) := hky.cell 0
  have r1 : y.cell? ⟨ob, 1, none⟩ = some (.int .i64 dq.S.i) := hky.cell 1
  have r2 : y.cell? ⟨ob, 2, none⟩ = some (.int .i64 dq.S.o) := hky.cell 2
  have r3 : y.cell? ⟨ob, 3, none⟩ = some (.map o1) := hky.cell 3
  have r4 : y.cell? ⟨ob, 4, none⟩ = some (.map o2) := hky.cell 4
  have r5 : y.cell? ⟨ob, 5, none⟩ = some (.int .i64 dq.S.tb) := hky.cell 5
  have r6 : y.cell? ⟨ob, 6, none⟩ = some (.int .i64 dq.S.tt) := hky.cell 6
  have r7 : y.cell? ⟨ob, 7, none⟩ = some (.map o3) := hky.cell 7
  have s0 : y.cell? ⟨pbx, 0, none⟩ = some (.int .i64 M.y) := hkl.cell 0
  have s1 : y.cell? ⟨pbx, 1, none⟩ = some (.int .i64 M.i) := hkl.cell 1
  have s2 : y.cell? ⟨pbx, 2, none⟩ = some (.slice Av nl cv) := hkl.cell 2
  have p0 : w8.cell? ⟨pb, 0, none⟩ = some (.int .i64 dq.S.y) := Bk.cell (HSQ8.out.1) 0
  have p1 : w8.cell? ⟨pb, 1, none⟩ = some (.int .i64 dq.S.i) := Bk.cell (HSQ8.out.1) 1
  have p2 : w8.cell? ⟨pb, 2, none⟩ = some (.int .i64 dq.S.o) := Bk.cell (HSQ8.out.1) 2
  have p3 : w8.cell? ⟨pb, 3, none⟩ = some (.map o1) := by rw [← hvb]; exact Bk.cell (HSQ8.out.1) 3
  have p4 : w8.cell? ⟨pb, 4, none⟩ = some (.map o2) := by rw [← hvs]; exact Bk.cell (HSQ8.out.1) 4
  have p5 : w8.cell? ⟨pb, 5, none⟩ = some (.int .i64 dq.S.tb) := Bk.cell (HSQ8.out.1) 5
  have p6 : w8.cell? ⟨pb, 6, none⟩ = some (.int .i64 dq.S.tt) := Bk.cell (HSQ8.out.1) 6
  have p7 : w8.cell? ⟨pb, 7, none⟩ = some (.map o3) := by rw [← hvo]; exact Bk.cell (HSQ8.out.1) 7
  have m0 : w8.cell? ⟨qb, 0, none⟩ = some (.int .i64 M.y) := Bk.cell (HQ8.out) 0
  have m1 : w8.cell? ⟨qb, 1, none⟩ = some (.int .i64 M.i) := Bk.cell (HQ8.out) 1
  have m2 : w8.cell? ⟨qb, 2, none⟩ = some (.slice Av nl cv) := Bk.cell (HQ8.out) 2
  have q0 : w8.cell? ⟨ob, 0, none⟩ = some (.int .i64 0) := Bk.cell (HST8.out.o) 0
  have f0 : w8.frozen? ⟨ob, 0, none⟩ = false := Bk.frozen (HST8.out.o) 0
  have q1 : w8.cell? ⟨ob, 1, none⟩ = some (.int .i64 0) := Bk.cell (HST8.out.o) 1
  have f1 : w8.frozen? ⟨ob, 1, none⟩ = false := Bk.frozen (HST8.out.o) 1
  have q2 : w8.cell? ⟨ob, 2, none⟩ = some (.int .i64 0) := Bk.cell (HST8.out.o) 2
  have f2 : w8.frozen? ⟨ob, 2, none⟩ = false := Bk.frozen (HST8.out.o) 2
  have q3 : w8.cell? ⟨ob, 3, none⟩ = some (.map none) := Bk.cell (HST8.out.o) 3
  have f3 : w8.frozen? ⟨ob, 3, none⟩ = false := Bk.frozen (HST8.out.o) 3
  have q4 : w8.cell? ⟨ob, 4, none⟩ = some (.map none) := Bk.cell (HST8.out.o) 4
  have f4 : w8.frozen? ⟨ob, 4, none⟩ = false := Bk.frozen (HST8.out.o) 4
  have q5 : w8.cell? ⟨ob, 5, none⟩ = some (.int .i64 0) := Bk.cell (HST8.out.o) 5
  have f5 : w8.frozen? ⟨ob, 5, none⟩ = false := Bk.frozen (HST8.out.o) 5
  have q6 : w8.cell? ⟨ob, 6, none⟩ = some (.int .i64 0) := Bk.cell (HST8.out.o) 6
  have f6 : w8.frozen? ⟨ob, 6, none⟩ = false := Bk.frozen (HST8.out.o) 6
  have q7 : w8.cell? ⟨ob, 7, none⟩ = some (.map none) := Bk.cell (HST8.out.o) 7
  have f7 : w8.frozen? ⟨ob, 7, none⟩ = false := Bk.frozen (HST8.out.o) 7
  have t0 : w8.cell? ⟨pbx, 0, none⟩ = some (.int .i64 0) := Bk.cell (HST8.out.l) 0
  have g0 : w8.frozen? ⟨pbx, 0, none⟩ = false := Bk.frozen (HST8.out.l) 0
  have t1 : w8.cell? ⟨pbx, 1, none⟩ = some (.int .i64 0) := Bk.cell (HST8.out.l) 1
  have g1 : w8.frozen? ⟨pbx, 1, none⟩ = false := Bk.frozen (HST8.out.l) 1
  have t2 : w8.cell? ⟨pbx, 2, none⟩ = some (.slice none 0 0) := Bk.cell (HST8.out.l) 2
  have g2 : w8.frozen? ⟨pbx, 2, none⟩ = false := Bk.frozen (HST8.out.l) 2
  have p0x : w8.drew.cell? ⟨pb, 0, none⟩ = some (.int .i64 dq.S.y) := Bk.cell (bkBel HSQ8.out.1 (bDrew w8)) 0
  have p1x : w8.drew.cell? ⟨pb, 1, none⟩ = some (.int .i64 dq.S.i) := Bk.cell (bkBel HSQ8.out.1 (bDrew w8)) 1
  have p2x : w8.drew.cell? ⟨pb, 2, none⟩ = some (.int .i64 dq.S.o) := Bk.cell (bkBel HSQ8.out.1 (bDrew w8)) 2
  have p3x : w8.drew.cell? ⟨pb, 3, none⟩ = some (.map o1) := by rw [← hvb]; exact Bk.cell (bkBel HSQ8.out.1 (bDrew w8)) 3
  have p4x : w8.drew.cell? ⟨pb, 4, none⟩ = some (.map o2) := by rw [← hvs]; exact Bk.cell (bkBel HSQ8.out.1 (bDrew w8)) 4
  have p5x : w8.drew.cell? ⟨pb, 5, none⟩ = some (.int .i64 dq.S.tb) := Bk.cell (bkBel HSQ8.out.1 (bDrew w8)) 5
  have p6x : w8.drew.cell? ⟨pb, 6, none⟩ = some (.int .i64 dq.S.tt) := Bk.cell (bkBel HSQ8.out.1 (bDrew w8)) 6
  have p7x : w8.drew.cell? ⟨pb, 7, none⟩ = some (.map o3) := by rw [← hvo]; exact Bk.cell (bkBel HSQ8.out.1 (bDrew w8)) 7
  have m0x : w8.drew.cell? ⟨qb, 0, none⟩ = some (.int .i64 M.y) := Bk.cell (bkBel HQ8.out (bDrew w8)) 0
  have m1x : w8.drew.cell? ⟨qb, 1, none⟩ = some (.int .i64 M.i) := Bk.cell (bkBel HQ8.out (bDrew w8)) 1
  have m2x : w8.drew.cell? ⟨qb, 2, none⟩ = some (.slice Av nl cv) := Bk.cell (bkBel HQ8.out (bDrew w8)) 2
  have q0x : w8.drew.cell? ⟨ob, 0, none⟩ = some (.int .i64 0) := Bk.cell (bkBel HST8.out.o (bDrew w8)) 0
  have f0x : w8.drew.frozen? ⟨ob, 0, none⟩ = false := Bk.frozen (bkBel HST8.out.o (bDrew w8)) 0
  have q1x : w8.drew.cell? ⟨ob, 1, none⟩ = some (.int .i64 0) := Bk.cell (bkBel HST8.out.o (bDrew w8)) 1
  have f1x : w8.drew.frozen? ⟨ob, 1, none⟩ = false := Bk.frozen (bkBel HST8.out.o (bDrew w8)) 1
  have q2x : w8.drew.cell? ⟨ob, 2, none⟩ = some (.int .i64 0) := Bk.cell (bkBel HST8.out.o (bDrew w8)) 2
  have f2x : w8.drew.frozen? ⟨ob, 2, none⟩ = false := Bk.frozen (bkBel HST8.out.o (bDrew w8)) 2
  have q3x : w8.drew.cell? ⟨ob, 3, none⟩ = some (.map none) := Bk.cell (bkBel HST8.out.o (bDrew w8)) 3
  have f3x : w8.drew.frozen? ⟨ob, 3, none⟩ = false := Bk.frozen (bkBel HST8.out.o (bDrew w8)) 3
  have q4x : w8.drew.cell? ⟨ob, 4, none⟩ = some (.map none) := Bk.cell (bkBel HST8.out.o (bDrew w8)) 4
  have f4x : w8.drew.frozen? ⟨ob, 4, none⟩ = false := Bk.frozen (bkBel HST8.out.o (bDrew w8)) 4
  have q5x : w8.drew.cell? ⟨ob, 5, none⟩ = some (.int .i64 0) := Bk.cell (bkBel HST8.out.o (bDrew w8)) 5
  have f5x : w8.drew.frozen? ⟨ob, 5, none⟩ = false := Bk.frozen (bkBel HST8.out.o (bDrew w8)) 5
  have q6x : w8.drew.cell? ⟨ob, 6, none⟩ = some (.int .i64 0) := Bk.cell (bkBel HST8.out.o (bDrew w8)) 6
  have f6x : w8.drew.frozen? ⟨ob, 6, none⟩ = false := Bk.frozen (bkBel HST8.out.o (bDrew w8)) 6
  have q7x : w8.drew.cell? ⟨ob, 7, none⟩ = some (.map none) := Bk.cell (bkBel HST8.out.o (bDrew w8)) 7
  have f7x : w8.drew.frozen? ⟨ob, 7, none⟩ = false := Bk.frozen (bkBel HST8.out.o (bDrew w8)) 7
  have t0x : w8.drew.cell? ⟨pbx, 0, none⟩ = some (.int .i64 0) := Bk.cell (bkBel HST8.out.l (bDrew w8)) 0
  have g0x : w8.drew.frozen? ⟨pbx, 0, none⟩ = false := Bk.frozen (bkBel HST8.out.l (bDrew w8)) 0
  have t1x : w8.drew.cell? ⟨pbx, 1, none⟩ = some (.int .i64 0) := Bk.cell (bkBel HST8.out.l (bDrew w8)) 1
  have g1x : w8.drew.frozen? ⟨pbx, 1, none⟩ = false := Bk.frozen (bkBel HST8.out.l (bDrew w8)) 1
  have t2x : w8.drew.cell? ⟨pbx, 2, none⟩ = some (.slice none 0 0) := Bk.cell (bkBel HST8.out.l (bDrew w8)) 2
  have g2x : w8.drew.frozen? ⟨pbx, 2, none⟩ = false := Bk.frozen (bkBel HST8.out.l (bDrew w8)) 2
  have no1 : ob ≠ pbx := by have := HST8.out.ne; omega
  have no2 : pb ≠ ob := by have := HST8.out.ne; omega
  have no3 : pb ≠ pbx := by have := HST8.out.ne; omega
  have no4 : qb ≠ ob := fun e => absurd rfl (Bk.ne_ (by rw [e] at HQ8; exact HQ8.out) HST8.out.o (by decide))
  have hkk : Kep ob pbx w8 y := by rw [← hy]; exact (kep_set8 w8 (.int .i64 dq.S.y) (.int .i64 dq.S.i) (.int .i64 dq.S.o) (.map o1) (.map o2) (.int .i64 dq.S.tb) (.int .i64 dq.S.tt) (.map o3)).trans ((Kep.set2 _ _ _).trans ((Kep.set2 _ _ _).trans ((Kep.set2 _ _ _).trans (Kep.of_below (bDrew _)))))
  have HYS : Hid (StOk dq.S ⟨.map o1, .map o2, .map o3⟩ (n + 384) y) := Lib.hid (by
    rw [← HVV.out]
    have x1 := HSQ8.out.2.1
    have x2 := HSQ8.out.2.2.1
    have x3 := HSQ8.out.2.2.2
    exact ⟨hkk.map x1 (mapNePb x1 HST8.out.o) (mapNePb x1 HST8.out.l), hkk.map x2 (mapNePb x2 HST8.out.o) (mapNePb x2 HST8.out.l), hkk.map x3 (mapNePb x3 HST8.out.o) (mapNePb x3 HST8.out.l), runs_bd (by rw [HCE.out]; exact HQR.out)⟩)
  have HOY : Hid (Own encLi 3 44 w.heap.size (.slice Av nl cv) sl y) := Lib.hid (own_low (own_kep HOW8.out hkk HZU.out.2.1 HZU.out.2.2) HZU.out.1)
  clear hkk
  clear hky hkl hvb hvs hvo
  go_wp2_with fail
  go_region
  all_goals
    go_wp2
    rw [Exit.noGoto_ret]
    exact bodyPost_ret (v := .tuple #[.agg #[.int .i64 dq.S.y, .int .i64 dq.S.i, .int .i64 dq.S.o, .map o1, .map o2, .int .i64 dq.S.tb, .int .i64 dq.S.tt, .map o3], .agg #[.int .i64 M.y, .int .i64 M.i, .slice Av nl cv], .int .i64 0]) (by simp [results, Tryz.results16, go_sem, r0, r1, r2, r3, r4, r5, r6, r7, s0, s1, s2]) rfl ⟨⟨.map o1, .map o2, .map o3⟩, _, rfl, HOY.out, HYS.out, HBY.out⟩
end Go.Proofs.YtgepbkldgnjpfaaGreatDoor
