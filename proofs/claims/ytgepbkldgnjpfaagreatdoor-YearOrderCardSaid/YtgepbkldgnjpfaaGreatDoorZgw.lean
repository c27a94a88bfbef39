/- Out of: Yj6. -/
import Derived.Test.YtgepbkldgnjpfaaGreatDoorZgv
import Derived.Deep.AppendLies
import Derived.Deep.RegionHeldLaw
/- year: Resume's walk (gen/mkyj6.py). -/
namespace Go.Proofs.YtgepbkldgnjpfaaGreatDoor
open Go.RowKit Go.Sort Go.BigFrame Go.Maps

theorem StOk.kep {S : Ste} {V : StA} {n b : Nat} {t : TypeId} {cs : Array Value} {w w' : World} (h : StOk S V n w) (hb : Bk b t cs w) (hk : Kep b b w w') : StOk S V n w' :=
  ⟨hk.map h.be (mapNePb h.be hb) (mapNePb h.be hb), hk.map h.so (mapNePb h.so hb) (mapNePb h.so hb), hk.map h.od (mapNePb h.od hb) (mapNePb h.od hb), h.bd⟩
theorem mapGrown {κ β α : Type} {K : TypeId} {kl : κ → Lit} {me : β → Value} {m : Ass κ β} {n k base : Nat} {e : TypeId} {enc : α → List Value} {u v : Value} {l : List α} {w w' : World} (h : MapV K kl me m n u w) (ho : Own enc k e base v l w) (hg : w.grownBy w' v.ownBlock) : MapV K kl me m n u w' := by
  rcases h with h | ⟨b, hv, h⟩
  · exact Or.inl h
  · exact Or.inr ⟨b, hv, h.kept hg (ownNeMap ho h)⟩
theorem StOk.grown {α : Type} {k base n : Nat} {e : TypeId} {enc : α → List Value} {v : Value} {l : List α} {S : Ste} {V : StA} {w w' : World} (h : StOk S V n w) (ho : Own enc k e base v l w) (hg : w.grownBy w' v.ownBlock) : StOk S V n w' := ⟨mapGrown h.be ho hg, mapGrown h.so ho hg, mapGrown h.od ho hg, h.bd⟩
theorem belKep {b : Nat} {w w1 y : World} (h : Below w.heap.size w w1) (hk : Kep b b w1 y) (hb : w.heap.size ≤ b) : Below w.heap.size w y := h.trans (hk.below hb hb h.size)
theorem cell_set8 (w : World) {b t : Nat} (hne : t ≠ b) (u0 u1 u2 u3 u4 u5 u6 u7 : Value) (o : Nat) : (set8 w b u0 u1 u2 u3 u4 u5 u6 u7).cell? ⟨t, o, none⟩ = w.cell? ⟨t, o, none⟩ := by
  refine World.cell?_of_block (a := ⟨t, o, none⟩) ?_
  unfold set8
  exact (Below.heap_setCell _ _ _ _ hne).trans ((Below.heap_setCell _ _ _ _ hne).trans ((Below.heap_setCell _ _ _ _ hne).trans ((Below.heap_setCell _ _ _ _ hne).trans ((Below.heap_setCell _ _ _ _ hne).trans ((Below.heap_setCell _ _ _ _ hne).trans ((Below.heap_setCell _ _ _ _ hne).trans (Below.heap_setCell _ _ _ _ hne)))))))
/-- What Resume's own blocks hold: the state at the start, the result's, the state now. -/
structure ReW (B sb zb nb : Nat) (S : Ste) (V : StA) (now : Ste) (Vn : StA) (wr : World) : Prop where
  s : Bk sb 33 (stC S V) wr
  z : Bk zb 33 (stC Ste.none StA.none) wr
  n : Bk nb 33 (stC now Vn) wr
theorem ReW.below {B sb zb nb : Nat} {S : Ste} {V : StA} {now : Ste} {Vn : StA} {w w' : World} (h : ReW B sb zb nb S V now Vn w) (hb : Below w.heap.size w w') : ReW B sb zb nb S V now Vn w' := ⟨bkBel h.s hb, bkBel h.z hb, bkBel h.n hb⟩
set_option maxHeartbeats 4000000 in
set_option maxRecDepth 100000 in
theorem yr_Resume (S : Ste) (V : StA) (l : List (Mon × MoA)) (A : Option Addr) (cap n0 : Nat) (w : World) (hS : StOk S V n0 w) (hn : n0 ≤ 800000000) (hl : l.length ≤ 1000000) (hs : SlMo w A l) (hT : Tb w) :
    Calls Tryz.prog 20 #[stV S V, .slice A l.length cap] w fun e w' => ∃ V2 v ls, e = .returned (.tuple #[v, stV (resM S (l.map Prod.fst)).2.1 V2, .int .i64 (resM S (l.map Prod.fst)).2.2]) ∧ ls.map Prod.fst = (resM S (l.map Prod.fst)).1 ∧ OwnSl w.heap.size v ls w' ∧ StOk (resM S (l.map Prod.fst)).2.1 V2 (n0 + 1572864) w' ∧ Below w.heap.size w w' := by
  obtain ⟨R, hR⟩ : ∃ R, resM S (l.map Prod.fst) = R := ⟨_, rfl⟩
  rw [hR]
  obtain ⟨vb, vs, vo⟩ := V
  obtain ⟨o1, h1⟩ := hS.be.form
  obtain ⟨o2, h2⟩ := hS.so.form
  obtain ⟨o3, h3⟩ := hS.od.form
  dsimp only at h1 h2 h3
  subst h1 h2 h3
  have HSO := Lib.hid hS
  have HSL := Lib.hid hs
  have HT := Lib.hid hT
  have HN0 := Lib.hid hn
  have HR := Lib.hid hR
  clear hS hs hT hn hR
  obtain ⟨sb, hsb⟩ : ∃ x, w.heap.size = x := ⟨_, rfl⟩
  obtain ⟨zb, hzb⟩ : ∃ x, sb + 1 = x := ⟨_, rfl⟩
  obtain ⟨u1, hu1⟩ : ∃ x, w.alloc (.cells #[.int .i64 S.y, .int .i64 S.i, .int .i64 S.o, .map o1, .map o2, .int .i64 S.tb, .int .i64 S.tt, .map o3] 33) = x := ⟨_, rfl⟩
  obtain ⟨wa, hwa⟩ : ∃ x, u1.alloc (.cells #[.int .i64 0, .int .i64 0, .int .i64 0, .map none, .map none, .int .i64 0, .int .i64 0, .map none] 33) = x := ⟨_, rfl⟩
  have z1 : u1.heap.size = zb := by rw [← hu1]; simp; omega
  have g1 : Below w.heap.size w u1 := by rw [← hu1]; exact bAlloc _ _
  have g2 : Below u1.heap.size u1 wa := by rw [← hwa]; exact bAlloc _ _
  have HKS : Hid (Bk sb 33 (stC S ⟨.map o1, .map o2, .map o3⟩) wa) := Lib.hid (bkBel (by rw [← hu1, ← hsb]; exact Bk.new _ _ _) g2)
  have HKZ : Hid (Bk zb 33 (stC Ste.none StA.none) wa) := Lib.hid (by rw [← hwa, ← z1]; exact Bk.new _ _ _)
  have HBA : Hid (Below w.heap.size w wa) := Lib.hid (bTrans g1 g2)
  have HNE : Hid (w.heap.size ≤ sb ∧ sb < zb) := Lib.hid ⟨by omega, by omega⟩
  have HWF : Hid ((w.alloc (.cells #[.int .i64 S.y, .int .i64 S.i, .int .i64 S.o, .map o1, .map o2, .int .i64 S.tb, .int .i64 S.tt, .map o3] 33)).alloc (.cells #[.int .i64 0, .int .i64 0, .int .i64 0, .map none, .map none, .int .i64 0, .int .i64 0, .map none] 33) = wa ∧ w.heap.size + 1 = zb ∧ w.heap.size = sb) := Lib.hid ⟨by rw [hu1, hwa], by omega, hsb⟩
  clear g1 g2 z1 hu1 hwa hzb hsb
  show Calls _ _ #[.agg #[.int .i64 S.y, .int .i64 S.i, .int .i64 S.o, .map o1, .map o2, .int .i64 S.tb, .int .i64 S.tt, .map o3], .slice A l.length cap] w _
  go_enter Tryz.func20, Tryz.ntmps20
  go_upto_region 1 with fail
  rw [HWF.out.1, HWF.out.2.1, HWF.out.2.2]
  clear HWF
  by_cases hm : 4096 < l.length
  · have hR : R = ([], S, 5) := by rw [← HR.out]; exact if_pos (by rw [List.length_map]; exact hm)
    subst hR
    obtain ⟨y, hy⟩ : ∃ y, ((((((((wa.setCell ⟨zb, 0, none⟩ (.int .i64 S.y)).setCell ⟨zb, 1, none⟩ (.int .i64 S.i)).setCell ⟨zb, 2, none⟩ (.int .i64 S.o)).setCell ⟨zb, 3, none⟩ (.map o1)).setCell ⟨zb, 4, none⟩ (.map o2)).setCell ⟨zb, 5, none⟩ (.int .i64 S.tb)).setCell ⟨zb, 6, none⟩ (.int .i64 S.tt)).setCell ⟨zb, 7, none⟩ (.map o3)).drew = y := ⟨_, rfl⟩
    have hky : Bk zb 33 #[.int .i64 S.y, .int .i64 S.i, .int .i64 S.o, .map o1, .map o2, .int .i64 S.tb, .int .i64 S.tt, .map o3] y := by rw [← hy]; exact bkBel (bk_set8 HKZ.out (.int .i64 S.y) (.int .i64 S.i) (.int .i64 S.o) (.map o1) (.map o2) (.int .i64 S.tb) (.int .i64 S.tt) (.map o3)) (bDrew _)
    have hkk : Kep zb zb wa y := by rw [← hy]; exact (kep_set8 wa (.int .i64 S.y) (.int .i64 S.i) (.int .i64 S.o) (.map o1) (.map o2) (.int .i64 S.tb) (.int .i64 S.tt) (.map o3)).trans (Kep.of_below (bDrew _))
    have HBY : Hid (Below w.heap.size w y) := Lib.hid (belKep HBA.out hkk (by have := HNE.out; omega))
    have r0 : y.cell? ⟨zb, 0, none⟩ = some (.int .i64 S.y) := Bk.cell (hky) 0
    have r1 : y.cell? ⟨zb, 1, none⟩ = some (.int .i64 S.i) := Bk.cell (hky) 1
    have r2 : y.cell? ⟨zb, 2, none⟩ = some (.int .i64 S.o) := Bk.cell (hky) 2
    have r3 : y.cell? ⟨zb, 3, none⟩ = some (.map o1) := Bk.cell (hky) 3
    have r4 : y.cell? ⟨zb, 4, none⟩ = some (.map o2) := Bk.cell (hky) 4
    have r5 : y.cell? ⟨zb, 5, none⟩ = some (.int .i64 S.tb) := Bk.cell (hky) 5
    have r6 : y.cell? ⟨zb, 6, none⟩ = some (.int .i64 S.tt) := Bk.cell (hky) 6
    have r7 : y.cell? ⟨zb, 7, none⟩ = some (.map o3) := Bk.cell (hky) 7
    have q0 : wa.cell? ⟨zb, 0, none⟩ = some (.int .i64 0) := Bk.cell (HKZ.out) 0
    have q1 : wa.cell? ⟨zb, 1, none⟩ = some (.int .i64 0) := Bk.cell (HKZ.out) 1
    have q2 : wa.cell? ⟨zb, 2, none⟩ = some (.int .i64 0) := Bk.cell (HKZ.out) 2
    have q3 : wa.cell? ⟨zb, 3, none⟩ = some (.map none) := Bk.cell (HKZ.out) 3
    have q4 : wa.cell? ⟨zb, 4, none⟩ = some (.map none) := Bk.cell (HKZ.out) 4
    have q5 : wa.cell? ⟨zb, 5, none⟩ = some (.int .i64 0) := Bk.cell (HKZ.out) 5
    have q6 : wa.cell? ⟨zb, 6, none⟩ = some (.int .i64 0) := Bk.cell (HKZ.out) 6
    have q7 : wa.cell? ⟨zb, 7, none⟩ = some (.map none) := Bk.cell (HKZ.out) 7
    have f0 : wa.frozen? ⟨zb, 0, none⟩ = false := Bk.frozen (HKZ.out) 0
    have f1 : wa.frozen? ⟨zb, 1, none⟩ = false := Bk.frozen (HKZ.out) 1
    have f2 : wa.frozen? ⟨zb, 2, none⟩ = false := Bk.frozen (HKZ.out) 2
    have f3 : wa.frozen? ⟨zb, 3, none⟩ = false := Bk.frozen (HKZ.out) 3
    have f4 : wa.frozen? ⟨zb, 4, none⟩ = false := Bk.frozen (HKZ.out) 4
    have f5 : wa.frozen? ⟨zb, 5, none⟩ = false := Bk.frozen (HKZ.out) 5
    have f6 : wa.frozen? ⟨zb, 6, none⟩ = false := Bk.frozen (HKZ.out) 6
    have f7 : wa.frozen? ⟨zb, 7, none⟩ = false := Bk.frozen (HKZ.out) 7
    have p0 : wa.cell? ⟨sb, 0, none⟩ = some (.int .i64 S.y) := Bk.cell (HKS.out) 0
    have p1 : wa.cell? ⟨sb, 1, none⟩ = some (.int .i64 S.i) := Bk.cell (HKS.out) 1
    have p2 : wa.cell? ⟨sb, 2, none⟩ = some (.int .i64 S.o) := Bk.cell (HKS.out) 2
    have p3 : wa.cell? ⟨sb, 3, none⟩ = some (.map o1) := Bk.cell (HKS.out) 3
    have p4 : wa.cell? ⟨sb, 4, none⟩ = some (.map o2) := Bk.cell (HKS.out) 4
    have p5 : wa.cell? ⟨sb, 5, none⟩ = some (.int .i64 S.tb) := Bk.cell (HKS.out) 5
    have p6 : wa.cell? ⟨sb, 6, none⟩ = some (.int .i64 S.tt) := Bk.cell (HKS.out) 6
    have p7 : wa.cell? ⟨sb, 7, none⟩ = some (.map o3) := Bk.cell (HKS.out) 7
    have qx0 : wa.drew.cell? ⟨zb, 0, none⟩ = some (.int .i64 0) := Bk.cell (bkBel HKZ.out (bDrew _)) 0
    have qx1 : wa.drew.cell? ⟨zb, 1, none⟩ = some (.int .i64 0) := Bk.cell (bkBel HKZ.out (bDrew _)) 1
    have qx2 : wa.drew.cell? ⟨zb, 2, none⟩ = some (.int .i64 0) := Bk.cell (bkBel HKZ.out (bDrew _)) 2
    have qx3 : wa.drew.cell? ⟨zb, 3, none⟩ = some (.map none) := Bk.cell (bkBel HKZ.out (bDrew _)) 3
    have qx4 : wa.drew.cell? ⟨zb, 4, none⟩ = some (.map none) := Bk.cell (bkBel HKZ.out (bDrew _)) 4
    have qx5 : wa.drew.cell? ⟨zb, 5, none⟩ = some (.int .i64 0) := Bk.cell (bkBel HKZ.out (bDrew _)) 5
    have qx6 : wa.drew.cell? ⟨zb, 6, none⟩ = some (.int .i64 0) := Bk.cell (bkBel HKZ.out (bDrew _)) 6
    have qx7 : wa.drew.cell? ⟨zb, 7, none⟩ = some (.map none) := Bk.cell (bkBel HKZ.out (bDrew _)) 7
    have fx0 : wa.drew.frozen? ⟨zb, 0, none⟩ = false := Bk.frozen (bkBel HKZ.out (bDrew _)) 0
    have fx1 : wa.drew.frozen? ⟨zb, 1, none⟩ = false := Bk.frozen (bkBel HKZ.out (bDrew _)) 1
    have fx2 : wa.drew.frozen? ⟨zb, 2, none⟩ = false := Bk.frozen (bkBel HKZ.out (bDrew _)) 2
    have fx3 : wa.drew.frozen? ⟨zb, 3, none⟩ = false := Bk.frozen (bkBel HKZ.out (bDrew _)) 3
    have fx4 : wa.drew.frozen? ⟨zb, 4, none⟩ = false := Bk.frozen (bkBel HKZ.out (bDrew _)) 4
    have fx5 : wa.drew.frozen? ⟨zb, 5, none⟩ = false := Bk.frozen (bkBel HKZ.out (bDrew _)) 5
    have fx6 : wa.drew.frozen? ⟨zb, 6, none⟩ = false := Bk.frozen (bkBel HKZ.out (bDrew _)) 6
    have fx7 : wa.drew.frozen? ⟨zb, 7, none⟩ = false := Bk.frozen (bkBel HKZ.out (bDrew _)) 7
    have px0 : wa.drew.cell? ⟨sb, 0, none⟩ = some (.int .i64 S.y) := Bk.cell (bkBel HKS.out (bDrew _)) 0
    have px1 : wa.drew.cell? ⟨sb, 1, none⟩ = some (.int .i64 S.i) := Bk.cell (bkBel HKS.out (bDrew _)) 1
    have px2 : wa.drew.cell? ⟨sb, 2, none⟩ = some (.int .i64 S.o) := Bk.cell (bkBel HKS.out (bDrew _)) 2
    have px3 : wa.drew.cell? ⟨sb, 3, none⟩ = some (.map o1) := Bk.cell (bkBel HKS.out (bDrew _)) 3
    have px4 : wa.drew.cell? ⟨sb, 4, none⟩ = some (.map o2) := Bk.cell (bkBel HKS.out (bDrew _)) 4
    have px5 : wa.drew.cell? ⟨sb, 5, none⟩ = some (.int .i64 S.tb) := Bk.cell (bkBel HKS.out (bDrew _)) 5
    have px6 : wa.drew.cell? ⟨sb, 6, none⟩ = some (.int .i64 S.tt) := Bk.cell (bkBel HKS.out (bDrew _)) 6
    have px7 : wa.drew.cell? ⟨sb, 7, none⟩ = some (.map o3) := Bk.cell (bkBel HKS.out (bDrew _)) 7
    have no1 : sb ≠ zb := by have := HNE.out; omega
    have HYS : Hid (StOk S ⟨.map o1, .map o2, .map o3⟩ (n0 + 1572864) y) := Lib.hid (((HSO.out.below HBA.out).kep HKZ.out hkk).mono (by omega))
    clear hky hkk
    go_wp2_with fail
    go_region
    all_goals
      go_wp2
      exact bodyPost_ret (v := .tuple #[.slice none 0 0, .agg #[.int .i64 S.y, .int .i64 S.i, .int .i64 S.o, .map o1, .map o2, .int .i64 S.tb, .int .i64 S.tt, .map o3], .int .i64 5]) (by simp [results, Tryz.results20, go_sem, r0, r1, r2, r3, r4, r5, r6, r7]) rfl ⟨⟨.map o1, .map o2, .map o3⟩, _, rfl, OwnSl.nil, HYS.out, HBY.out⟩
  have HRG : Hid (resGo S S [] (l.map Prod.fst) = R) := Lib.hid (by rw [← HR.out]; exact (if_neg (by rw [List.length_map]; exact hm)).symm)
  clear HR
  have e0 : wa.cell? ⟨sb, 0, none⟩ = some (.int .i64 S.y) := Bk.cell (HKS.out) 0
  have e1 : wa.cell? ⟨sb, 1, none⟩ = some (.int .i64 S.i) := Bk.cell (HKS.out) 1
  have e2 : wa.cell? ⟨sb, 2, none⟩ = some (.int .i64 S.o) := Bk.cell (HKS.out) 2
  have e3 : wa.cell? ⟨sb, 3, none⟩ = some (.map o1) := Bk.cell (HKS.out) 3
  have e4 : wa.cell? ⟨sb, 4, none⟩ = some (.map o2) := Bk.cell (HKS.out) 4
  have e5 : wa.cell? ⟨sb, 5, none⟩ = some (.int .i64 S.tb) := Bk.cell (HKS.out) 5
  have e6 : wa.cell? ⟨sb, 6, none⟩ = some (.int .i64 S.tt) := Bk.cell (HKS.out) 6
  have e7 : wa.cell? ⟨sb, 7, none⟩ = some (.map o3) := Bk.cell (HKS.out) 7
  obtain ⟨nb, hnb⟩ : ∃ x, wa.heap.size = x := ⟨_, rfl⟩
  obtain ⟨wn, hwn⟩ : ∃ x, wa.alloc (.cells #[.int .i64 S.y, .int .i64 S.i, .int .i64 S.o, .map o1, .map o2, .int .i64 S.tb, .int .i64 S.tt, .map o3] 33) = x := ⟨_, rfl⟩
  have hbn : Below wa.heap.size wa wn := by rw [← hwn]; exact bAlloc _ _
  have HRW : Hid (ReW w.heap.size sb zb nb S ⟨.map o1, .map o2, .map o3⟩ S ⟨.map o1, .map o2, .map o3⟩ wn) := Lib.hid ⟨bkBel HKS.out hbn, bkBel HKZ.out hbn, by rw [← hwn, ← hnb]; exact Bk.new _ _ _⟩
  have HBN : Hid (Below w.heap.size w wn) := Lib.hid (bTrans HBA.out hbn)
  replace HNE : Hid (w.heap.size ≤ sb ∧ sb < zb ∧ zb < nb) := Lib.hid ⟨HNE.out.1, HNE.out.2, by have := HKZ.out.lt; omega⟩
  have HSN : Hid (StOk S ⟨.map o1, .map o2, .map o3⟩ (n0 + 384 * 0) wn) := Lib.hid (HSO.out.below HBN.out)
  have HWF2 := Lib.hid (And.intro hnb hwn)
  clear hbn hnb hwn HKS HKZ HBA
  go_upto_region 5 with fail
  rw [HWF2.out.1, HWF2.out.2]
  clear HWF2 e0 e1 e2 e3 e4 e5 e6 e7
  go_wp2_with fail
  go_loopg [7, 21] l.length (fun kk ov iv wr => ∃ (sv : Value) (n : Nat) (now : Ste) (Vn : StA) (ls : List (Slp × (Option Addr × Nat))), sv = ov ∧ n + kk = l.length ∧ iv = .int .i64 n ∧ Hid (resGo S now (ls.map Prod.fst) ((l.map Prod.fst).drop n) = R) ∧ Hid (StOk now Vn (n0 + 384 * n) wr) ∧ Hid (ReW w.heap.size sb zb nb S ⟨.map o1, .map o2, .map o3⟩ now Vn wr) ∧ Hid (OwnSl (nb + 1) ov ls wr) ∧ Hid (ls.length ≤ n) ∧ Hid (Below w.heap.size w wr))
  case atStart => exact ⟨_, 0, S, ⟨.map o1, .map o2, .map o3⟩, [], rfl, Nat.zero_add _, rfl, HRG, HSN, HRW, Lib.hid OwnSl.nil, Lib.hid (Nat.zero_le _), HBN⟩
  case round =>
    obtain ⟨ov, n, now, Vn, ls, rfl, hn1, rfl, HA, HST, HW, HOS, HLL, HB⟩ := hrel
    clear HRG HSN HRW HBN
    obtain ⟨vb, vs, vo⟩ := Vn
    obtain ⟨n1, h1⟩ := HST.out.be.form
    obtain ⟨n2, h2⟩ := HST.out.so.form
    obtain ⟨n3, h3⟩ := HST.out.od.form
    dsimp only at h1 h2 h3
    subst h1 h2 h3
    by_cases hlt : n < l.length
    · obtain ⟨b, off, rfl, hB, hc⟩ := HSL.out.1 (by intro h; simp [h] at hlt)
      obtain ⟨⟨M, MA⟩, hx⟩ : ∃ x, l[n]? = some x := ⟨_, List.getElem?_eq_getElem hlt⟩
      have HM : Hid (MoOk M MA w) := Lib.hid (HSL.out.2 _ (List.mem_of_getElem? hx))
      have c0 : wr.cell? ⟨b, off + n * 12, none⟩ = some (.int .i64 M.y) := (HB.out.cell (p := ⟨b, off + n * 12, none⟩) hB).trans (by simpa using hc n _ hx 0 _ rfl)
      have c1 : wr.cell? ⟨b, off + n * 12 + 1, none⟩ = some (.int .i64 M.i) := (HB.out.cell (p := ⟨b, off + n * 12 + 1, none⟩) hB).trans (hc n _ hx 1 _ rfl)
      have c2 : wr.cell? ⟨b, off + n * 12 + 2, none⟩ = some (.int .i64 M.o) := (HB.out.cell (p := ⟨b, off + n * 12 + 2, none⟩) hB).trans (hc n _ hx 2 _ rfl)
      have c3 : wr.cell? ⟨b, off + n * 12 + 3, none⟩ = some (.slice MA.gr.1 M.gr.length MA.gr.2) := (HB.out.cell (p := ⟨b, off + n * 12 + 3, none⟩) hB).trans (hc n _ hx 3 _ rfl)
      have c4 : wr.cell? ⟨b, off + n * 12 + 4, none⟩ = some (.slice MA.be.1 M.be.length MA.be.2) := (HB.out.cell (p := ⟨b, off + n * 12 + 4, none⟩) hB).trans (hc n _ hx 4 _ rfl)
      have c5 : wr.cell? ⟨b, off + n * 12 + 5, none⟩ = some (.slice MA.af.1 M.af.length MA.af.2) := (HB.out.cell (p := ⟨b, off + n * 12 + 5, none⟩) hB).trans (hc n _ hx 5 _ rfl)
      have c6 : wr.cell? ⟨b, off + n * 12 + 6, none⟩ = some (.slice MA.li.1 M.li.length MA.li.2) := (HB.out.cell (p := ⟨b, off + n * 12 + 6, none⟩) hB).trans (hc n _ hx 6 _ rfl)
      have c7 : wr.cell? ⟨b, off + n * 12 + 7, none⟩ = some (.slice MA.sc.1 M.sc.length MA.sc.2) := (HB.out.cell (p := ⟨b, off + n * 12 + 7, none⟩) hB).trans (hc n _ hx 7 _ rfl)
      have c8 : wr.cell? ⟨b, off + n * 12 + 8, none⟩ = some (.int .i64 M.al) := (HB.out.cell (p := ⟨b, off + n * 12 + 8, none⟩) hB).trans (hc n _ hx 8 _ rfl)
      have c9 : wr.cell? ⟨b, off + n * 12 + 9, none⟩ = some (.int .i64 M.ex) := (HB.out.cell (p := ⟨b, off + n * 12 + 9, none⟩) hB).trans (hc n _ hx 9 _ rfl)
      have c10 : wr.cell? ⟨b, off + n * 12 + 10, none⟩ = some (.slice MA.ba.1 M.ba.length MA.ba.2) := (HB.out.cell (p := ⟨b, off + n * 12 + 10, none⟩) hB).trans (hc n _ hx 10 _ rfl)
      have c11 : wr.cell? ⟨b, off + n * 12 + 11, none⟩ = some (.slice MA.od.1 M.od.length MA.od.2) := (HB.out.cell (p := ⟨b, off + n * 12 + 11, none⟩) hB).trans (hc n _ hx 11 _ rfl)
      have hdrop : (l.map Prod.fst).drop n = M :: (l.map Prod.fst).drop (n + 1) := drop_get (by rw [List.getElem?_map, hx]; rfl)
      obtain ⟨⟨S2, ⟨y2, i2, l2⟩, e2⟩, hq⟩ : ∃ q, stepM now M = q := ⟨_, rfl⟩
      have HD : Hid (R = if e2 ≠ 0 then ([], S, e2) else resGo S S2 (ls.map Prod.fst ++ [(y2, i2, l2)]) ((l.map Prod.fst).drop (n + 1))) := Lib.hid (by
        have h : resGo S now (ls.map Prod.fst) (M :: (l.map Prod.fst).drop (n + 1)) = if (stepM now M).2.2 ≠ 0 then ([], S, (stepM now M).2.2) else resGo S (stepM now M).1 (ls.map Prod.fst ++ [(stepM now M).2.1]) ((l.map Prod.fst).drop (n + 1)) := rfl
        rw [← HA.out, hdrop, h, hq])
      obtain ⟨mb, hmb⟩ : ∃ x, wr.heap.size = x := ⟨_, rfl⟩
      obtain ⟨wm, hwm⟩ : ∃ x, wr.alloc (.cells #[.int .i64 M.y, .int .i64 M.i, .int .i64 M.o, .slice MA.gr.1 M.gr.length MA.gr.2, .slice MA.be.1 M.be.length MA.be.2, .slice MA.af.1 M.af.length MA.af.2, .slice MA.li.1 M.li.length MA.li.2, .slice MA.sc.1 M.sc.length MA.sc.2, .int .i64 M.al, .int .i64 M.ex, .slice MA.ba.1 M.ba.length MA.ba.2, .slice MA.od.1 M.od.length MA.od.2] 54) = x := ⟨_, rfl⟩
      have hbm : Below wr.heap.size wr wm := by rw [← hwm]; exact bAlloc _ _
      have hkm : Bk mb 54 #[.int .i64 M.y, .int .i64 M.i, .int .i64 M.o, .slice MA.gr.1 M.gr.length MA.gr.2, .slice MA.be.1 M.be.length MA.be.2, .slice MA.af.1 M.af.length MA.af.2, .slice MA.li.1 M.li.length MA.li.2, .slice MA.sc.1 M.sc.length MA.sc.2, .int .i64 M.al, .int .i64 M.ex, .slice MA.ba.1 M.ba.length MA.ba.2, .slice MA.od.1 M.od.length MA.od.2] wm := by rw [← hwm, ← hmb]; exact Bk.new _ _ _
      have hbw : Below w.heap.size w wm := bTrans HB.out hbm
      have HCS : Hid (Calls Tryz.prog 16 #[.agg #[.int .i64 now.y, .int .i64 now.i, .int .i64 now.o, .map n1, .map n2, .int .i64 now.tb, .int .i64 now.tt, .map n3], .agg #[.int .i64 M.y, .int .i64 M.i, .int .i64 M.o, .slice MA.gr.1 M.gr.length MA.gr.2, .slice MA.be.1 M.be.length MA.be.2, .slice MA.af.1 M.af.length MA.af.2, .slice MA.li.1 M.li.length MA.li.2, .slice MA.sc.1 M.sc.length MA.sc.2, .int .i64 M.al, .int .i64 M.ex, .slice MA.ba.1 M.ba.length MA.ba.2, .slice MA.od.1 M.od.length MA.od.2]] wm fun e w' => ∃ V2 v, e = .returned (.tuple #[stV S2 V2, .agg #[.int .i64 y2, .int .i64 i2, v], .int .i64 e2]) ∧ Own encLi 3 44 wm.heap.size v l2 w' ∧ StOk S2 V2 (n0 + 384 * (n + 1)) w' ∧ Below wm.heap.size wm w') := Lib.hid (by
        have h := yr_Step now ⟨.map n1, .map n2, .map n3⟩ M MA (n0 + 384 * n) wm (HST.out.below hbm) (by have := HN0.out; omega) (HM.out.below hbw) (HT.out.below hbw)
        rw [hq] at h
        exact h.mono fun e w' ⟨V2, v, k1, k2, k3, k4⟩ => ⟨V2, v, k1, k2, k3.mono (by omega), k4⟩)
      have HWM := Lib.hid (HW.out.below hbm)
      have HOM := Lib.hid (HOS.out.below hbm)
      have HBM := Lib.hid hbw
      have HNM : Hid (nb < wm.heap.size) := Lib.hid HWM.out.n.lt
      have d0 : wm.cell? ⟨nb, 0, none⟩ = some (.int .i64 now.y) := Bk.cell (HWM.out.n) 0
      have d1 : wm.cell? ⟨nb, 1, none⟩ = some (.int .i64 now.i) := Bk.cell (HWM.out.n) 1
      have d2 : wm.cell? ⟨nb, 2, none⟩ = some (.int .i64 now.o) := Bk.cell (HWM.out.n) 2
      have d3 : wm.cell? ⟨nb, 3, none⟩ = some (.map n1) := Bk.cell (HWM.out.n) 3
      have d4 : wm.cell? ⟨nb, 4, none⟩ = some (.map n2) := Bk.cell (HWM.out.n) 4
      have d5 : wm.cell? ⟨nb, 5, none⟩ = some (.int .i64 now.tb) := Bk.cell (HWM.out.n) 5
      have d6 : wm.cell? ⟨nb, 6, none⟩ = some (.int .i64 now.tt) := Bk.cell (HWM.out.n) 6
      have d7 : wm.cell? ⟨nb, 7, none⟩ = some (.map n3) := Bk.cell (HWM.out.n) 7
      have m0 : wm.cell? ⟨mb, 0, none⟩ = some (.int .i64 M.y) := Bk.cell (hkm) 0
      have m1 : wm.cell? ⟨mb, 1, none⟩ = some (.int .i64 M.i) := Bk.cell (hkm) 1
      have m2 : wm.cell? ⟨mb, 2, none⟩ = some (.int .i64 M.o) := Bk.cell (hkm) 2
      have m3 : wm.cell? ⟨mb, 3, none⟩ = some (.slice MA.gr.1 M.gr.length MA.gr.2) := Bk.cell (hkm) 3
      have m4 : wm.cell? ⟨mb, 4, none⟩ = some (.slice MA.be.1 M.be.length MA.be.2) := Bk.cell (hkm) 4
      have m5 : wm.cell? ⟨mb, 5, none⟩ = some (.slice MA.af.1 M.af.length MA.af.2) := Bk.cell (hkm) 5
      have m6 : wm.cell? ⟨mb, 6, none⟩ = some (.slice MA.li.1 M.li.length MA.li.2) := Bk.cell (hkm) 6
      have m7 : wm.cell? ⟨mb, 7, none⟩ = some (.slice MA.sc.1 M.sc.length MA.sc.2) := Bk.cell (hkm) 7
      have m8 : wm.cell? ⟨mb, 8, none⟩ = some (.int .i64 M.al) := Bk.cell (hkm) 8
      have m9 : wm.cell? ⟨mb, 9, none⟩ = some (.int .i64 M.ex) := Bk.cell (hkm) 9
      have m10 : wm.cell? ⟨mb, 10, none⟩ = some (.slice MA.ba.1 M.ba.length MA.ba.2) := Bk.cell (hkm) 10
      have m11 : wm.cell? ⟨mb, 11, none⟩ = some (.slice MA.od.1 M.od.length MA.od.2) := Bk.cell (hkm) 11
      have HWF := Lib.hid (And.intro hmb hwm)
      clear hc hx hdrop hq hmb hwm hbm hkm hbw HA HST HW HOS HB
      go_upto_region 8 with fail
      rw [HWF.out.1, HWF.out.2]
      clear HWF c0 c1 c2 c3 c4 c5 c6 c7 c8 c9 c10 c11
      go_wp2_with fail
      refine HCS.out.mono ?_
      rintro e w2 ⟨⟨vb, vs, vo⟩, v2, hee, hown, hst, hb2⟩
      clear d0 d1 d2 d3 d4 d5 d6 d7 m0 m1 m2 m3 m4 m5 m6 m7 m8 m9 m10 m11 HCS
      obtain ⟨p1, h1⟩ := hst.be.form
      obtain ⟨p2, h2⟩ := hst.so.form
      obtain ⟨p3, h3⟩ := hst.od.form
      dsimp only at h1 h2 h3
      subst h1 h2 h3
      obtain ⟨A2, cap2, hv2, _⟩ := Own.val (enc := encLi) (k := 3) (fun _ => rfl) hown
      subst hv2
      replace hee : e = .returned (.tuple #[.agg #[.int .i64 S2.y, .int .i64 S2.i, .int .i64 S2.o, .map p1, .map p2, .int .i64 S2.tb, .int .i64 S2.tt, .map p3], .agg #[.int .i64 y2, .int .i64 i2, .slice A2 l2.length cap2], .int .i64 e2]) := hee
      subst hee
      obtain ⟨nl, hnl⟩ : ∃ x, l2.length = x := ⟨_, rfl⟩
      rw [hnl] at hown
      have HNL := Lib.hid hnl
      rw [hnl]
      clear hnl
      obtain ⟨tb, htb⟩ : ∃ x, w2.heap.size = x := ⟨_, rfl⟩
      obtain ⟨pb, hpb⟩ : ∃ x, tb + 1 = x := ⟨_, rfl⟩
      obtain ⟨w3, hw3⟩ : ∃ x, w2.alloc (.cells #[.int .i64 S2.y, .int .i64 S2.i, .int .i64 S2.o, .map p1, .map p2, .int .i64 S2.tb, .int .i64 S2.tt, .map p3] 33) = x := ⟨_, rfl⟩
      obtain ⟨w4, hw4⟩ : ∃ x, w3.alloc (.cells #[.int .i64 y2, .int .i64 i2, .slice A2 nl cap2] 41) = x := ⟨_, rfl⟩
      have z3 : w3.heap.size = pb := by rw [← hw3]; simp; omega
      have hb3 : Below w2.heap.size w2 w3 := by rw [← hw3]; exact bAlloc _ _
      have hb4 : Below w3.heap.size w3 w4 := by rw [← hw4]; exact bAlloc _ _
      have HKT : Hid (Bk tb 33 #[.int .i64 S2.y, .int .i64 S2.i, .int .i64 S2.o, .map p1, .map p2, .int .i64 S2.tb, .int .i64 S2.tt, .map p3] w4) := Lib.hid (bkBel (by rw [← hw3, ← htb]; exact Bk.new _ _ _) hb4)
      have HKP : Hid (Bk pb 41 #[.int .i64 y2, .int .i64 i2, .slice A2 nl cap2] w4) := Lib.hid (by rw [← hw4, ← z3]; exact Bk.new _ _ _)
      have hb24 : Below w2.heap.size w2 w4 := bTrans hb3 hb4
      have HW4 := Lib.hid (HWM.out.below (bTrans hb2 hb24))
      have HO4 := Lib.hid (HOM.out.below (bTrans hb2 hb24))
      have HB4 := Lib.hid (bTrans HBM.out (bTrans hb2 hb24))
      have HS4 := Lib.hid (hst.below hb24)
      have HL4 : Hid (Own encLi 3 44 (nb + 1) (.slice A2 nl cap2) l2 w4) := Lib.hid (own_low (hown.none_ ⟨hb24.os, hb24.tape, hb24.output, hb24.size, fun i hi _ => hb24.block i hi⟩) HNM.out)
      have HOB : Hid (∀ j, ov.ownBlock = some j → nb < j ∧ j < tb) := Lib.hid (fun j hj => by have h1 := HOM.out.1.lt hj; have h2 := hb2.size; omega)
      have HNT : Hid (nb < tb ∧ tb < pb ∧ pb < w4.heap.size) := Lib.hid ⟨by have := HNM.out; have := hb2.size; omega, by omega, HKP.out.lt⟩
      have HWF : Hid (w2.heap.size = tb ∧ (w2.alloc (.cells #[.int .i64 S2.y, .int .i64 S2.i, .int .i64 S2.o, .map p1, .map p2, .int .i64 S2.tb, .int .i64 S2.tt, .map p3] 33)).alloc (.cells #[.int .i64 y2, .int .i64 i2, .slice A2 nl cap2] 41) = w4 ∧ w2.heap.size + 1 = pb) := Lib.hid ⟨htb, by rw [hw3, hw4], by omega⟩
      clear htb hpb hw3 hw4 z3 hb2 hb3 hb4 hb24 hst hown HWM HOM HBM HNM
      go_upto_region 9 with fail
      rw [HWF.out.2.1, HWF.out.2.2, HWF.out.1]
      clear HWF
      by_cases he : e2 = 0
      case neg =>
        have hR : R = ([], S, e2) := by rw [HD.out]; exact if_pos he
        subst hR
        have d1 : (e2 != 0) = true := by simpa using he
        clear he HD
        obtain ⟨y, hy⟩ : ∃ y, ((((((((w4.setCell ⟨zb, 0, none⟩ (.int .i64 S.y)).setCell ⟨zb, 1, none⟩ (.int .i64 S.i)).setCell ⟨zb, 2, none⟩ (.int .i64 S.o)).setCell ⟨zb, 3, none⟩ (.map o1)).setCell ⟨zb, 4, none⟩ (.map o2)).setCell ⟨zb, 5, none⟩ (.int .i64 S.tb)).setCell ⟨zb, 6, none⟩ (.int .i64 S.tt)).setCell ⟨zb, 7, none⟩ (.map o3)).drew = y := ⟨_, rfl⟩
        have hky : Bk zb 33 #[.int .i64 S.y, .int .i64 S.i, .int .i64 S.o, .map o1, .map o2, .int .i64 S.tb, .int .i64 S.tt, .map o3] y := by rw [← hy]; exact bkBel (bk_set8 HW4.out.z (.int .i64 S.y) (.int .i64 S.i) (.int .i64 S.o) (.map o1) (.map o2) (.int .i64 S.tb) (.int .i64 S.tt) (.map o3)) (bDrew _)
        have hkk : Kep zb zb w4 y := by rw [← hy]; exact (kep_set8 w4 (.int .i64 S.y) (.int .i64 S.i) (.int .i64 S.o) (.map o1) (.map o2) (.int .i64 S.tb) (.int .i64 S.tt) (.map o3)).trans (Kep.of_below (bDrew _))
        have HBY : Hid (Below w.heap.size w y) := Lib.hid (belKep HB4.out hkk (by have := HNE.out; omega))
        have r0 : y.cell? ⟨zb, 0, none⟩ = some (.int .i64 S.y) := Bk.cell (hky) 0
        have r1 : y.cell? ⟨zb, 1, none⟩ = some (.int .i64 S.i) := Bk.cell (hky) 1
        have r2 : y.cell? ⟨zb, 2, none⟩ = some (.int .i64 S.o) := Bk.cell (hky) 2
        have r3 : y.cell? ⟨zb, 3, none⟩ = some (.map o1) := Bk.cell (hky) 3
        have r4 : y.cell? ⟨zb, 4, none⟩ = some (.map o2) := Bk.cell (hky) 4
        have r5 : y.cell? ⟨zb, 5, none⟩ = some (.int .i64 S.tb) := Bk.cell (hky) 5
        have r6 : y.cell? ⟨zb, 6, none⟩ = some (.int .i64 S.tt) := Bk.cell (hky) 6
        have r7 : y.cell? ⟨zb, 7, none⟩ = some (.map o3) := Bk.cell (hky) 7
        have q0 : w4.cell? ⟨zb, 0, none⟩ = some (.int .i64 0) := Bk.cell (HW4.out.z) 0
        have q1 : w4.cell? ⟨zb, 1, none⟩ = some (.int .i64 0) := Bk.cell (HW4.out.z) 1
        have q2 : w4.cell? ⟨zb, 2, none⟩ = some (.int .i64 0) := Bk.cell (HW4.out.z) 2
        have q3 : w4.cell? ⟨zb, 3, none⟩ = some (.map none) := Bk.cell (HW4.out.z) 3
        have q4 : w4.cell? ⟨zb, 4, none⟩ = some (.map none) := Bk.cell (HW4.out.z) 4
        have q5 : w4.cell? ⟨zb, 5, none⟩ = some (.int .i64 0) := Bk.cell (HW4.out.z) 5
        have q6 : w4.cell? ⟨zb, 6, none⟩ = some (.int .i64 0) := Bk.cell (HW4.out.z) 6
        have q7 : w4.cell? ⟨zb, 7, none⟩ = some (.map none) := Bk.cell (HW4.out.z) 7
        have f0 : w4.frozen? ⟨zb, 0, none⟩ = false := Bk.frozen (HW4.out.z) 0
        have f1 : w4.frozen? ⟨zb, 1, none⟩ = false := Bk.frozen (HW4.out.z) 1
        have f2 : w4.frozen? ⟨zb, 2, none⟩ = false := Bk.frozen (HW4.out.z) 2
        have f3 : w4.frozen? ⟨zb, 3, none⟩ = false := Bk.frozen (HW4.out.z) 3
        have f4 : w4.frozen? ⟨zb, 4, none⟩ = false := Bk.frozen (HW4.out.z) 4
        have f5 : w4.frozen? ⟨zb, 5, none⟩ = false := Bk.frozen (HW4.out.z) 5
        have f6 : w4.frozen? ⟨zb, 6, none⟩ = false := Bk.frozen (HW4.out.z) 6
        have f7 : w4.frozen? ⟨zb, 7, none⟩ = false := Bk.frozen (HW4.out.z) 7
        have p0 : w4.cell? ⟨sb, 0, none⟩ = some (.int .i64 S.y) := Bk.cell (HW4.out.s) 0
        have p1 : w4.cell? ⟨sb, 1, none⟩ = some (.int .i64 S.i) := Bk.cell (HW4.out.s) 1
        have p2 : w4.cell? ⟨sb, 2, none⟩ = some (.int .i64 S.o) := Bk.cell (HW4.out.s) 2
        have p3 : w4.cell? ⟨sb, 3, none⟩ = some (.map o1) := Bk.cell (HW4.out.s) 3
        have p4 : w4.cell? ⟨sb, 4, none⟩ = some (.map o2) := Bk.cell (HW4.out.s) 4
        have p5 : w4.cell? ⟨sb, 5, none⟩ = some (.int .i64 S.tb) := Bk.cell (HW4.out.s) 5
        have p6 : w4.cell? ⟨sb, 6, none⟩ = some (.int .i64 S.tt) := Bk.cell (HW4.out.s) 6
        have p7 : w4.cell? ⟨sb, 7, none⟩ = some (.map o3) := Bk.cell (HW4.out.s) 7
        have qx0 : w4.drew.cell? ⟨zb, 0, none⟩ = some (.int .i64 0) := Bk.cell (bkBel HW4.out.z (bDrew _)) 0
        have qx1 : w4.drew.cell? ⟨zb, 1, none⟩ = some (.int .i64 0) := Bk.cell (bkBel HW4.out.z (bDrew _)) 1
        have qx2 : w4.drew.cell? ⟨zb, 2, none⟩ = some (.int .i64 0) := Bk.cell (bkBel HW4.out.z (bDrew _)) 2
        have qx3 : w4.drew.cell? ⟨zb, 3, none⟩ = some (.map none) := Bk.cell (bkBel HW4.out.z (bDrew _)) 3
        have qx4 : w4.drew.cell? ⟨zb, 4, none⟩ = some (.map none) := Bk.cell (bkBel HW4.out.z (bDrew _)) 4
        have qx5 : w4.drew.cell? ⟨zb, 5, none⟩ = some (.int .i64 0) := Bk.cell (bkBel HW4.out.z (bDrew _)) 5
        have qx6 : w4.drew.cell? ⟨zb, 6, none⟩ = some (.int .i64 0) := Bk.cell (bkBel HW4.out.z (bDrew _)) 6
        have qx7 : w4.drew.cell? ⟨zb, 7, none⟩ = some (.map none) := Bk.cell (bkBel HW4.out.z (bDrew _)) 7
        have fx0 : w4.drew.frozen? ⟨zb, 0, none⟩ = false := Bk.frozen (bkBel HW4.out.z (bDrew _)) 0
        have fx1 : w4.drew.frozen? ⟨zb, 1, none⟩ = false := Bk.frozen (bkBel HW4.out.z (bDrew _)) 1
        have fx2 : w4.drew.frozen? ⟨zb, 2, none⟩ = false := Bk.frozen (bkBel HW4.out.z (bDrew _)) 2
        have fx3 : w4.drew.frozen? ⟨zb, 3, none⟩ = false := Bk.frozen (bkBel HW4.out.z (bDrew _)) 3
        have fx4 : w4.drew.frozen? ⟨zb, 4, none⟩ = false := Bk.frozen (bkBel HW4.out.z (bDrew _)) 4
        have fx5 : w4.drew.frozen? ⟨zb, 5, none⟩ = false := Bk.frozen (bkBel HW4.out.z (bDrew _)) 5
        have fx6 : w4.drew.frozen? ⟨zb, 6, none⟩ = false := Bk.frozen (bkBel HW4.out.z (bDrew _)) 6
        have fx7 : w4.drew.frozen? ⟨zb, 7, none⟩ = false := Bk.frozen (bkBel HW4.out.z (bDrew _)) 7
        have px0 : w4.drew.cell? ⟨sb, 0, none⟩ = some (.int .i64 S.y) := Bk.cell (bkBel HW4.out.s (bDrew _)) 0
        have px1 : w4.drew.cell? ⟨sb, 1, none⟩ = some (.int .i64 S.i) := Bk.cell (bkBel HW4.out.s (bDrew _)) 1
        have px2 : w4.drew.cell? ⟨sb, 2, none⟩ = some (.int .i64 S.o) := Bk.cell (bkBel HW4.out.s (bDrew _)) 2
        have px3 : w4.drew.cell? ⟨sb, 3, none⟩ = some (.map o1) := Bk.cell (bkBel HW4.out.s (bDrew _)) 3
        have px4 : w4.drew.cell? ⟨sb, 4, none⟩ = some (.map o2) := Bk.cell (bkBel HW4.out.s (bDrew _)) 4
        have px5 : w4.drew.cell? ⟨sb, 5, none⟩ = some (.int .i64 S.tb) := Bk.cell (bkBel HW4.out.s (bDrew _)) 5
        have px6 : w4.drew.cell? ⟨sb, 6, none⟩ = some (.int .i64 S.tt) := Bk.cell (bkBel HW4.out.s (bDrew _)) 6
        have px7 : w4.drew.cell? ⟨sb, 7, none⟩ = some (.map o3) := Bk.cell (bkBel HW4.out.s (bDrew _)) 7
        have no1 : sb ≠ zb := by have := HNE.out; omega
        have HYS : Hid (StOk S ⟨.map o1, .map o2, .map o3⟩ (n0 + 1572864) y) := Lib.hid (((HSO.out.below HB4.out).kep HW4.out.z hkk).mono (by omega))
        clear hky hkk
        go_wp2_with fail
        go_region
        all_goals
          go_wp2
          exact bodyPost_ret (v := .tuple #[.slice none 0 0, .agg #[.int .i64 S.y, .int .i64 S.i, .int .i64 S.o, .map o1, .map o2, .int .i64 S.tb, .int .i64 S.tt, .map o3], .int .i64 e2]) (by simp [results, Tryz.results20, go_sem, r0, r1, r2, r3, r4, r5, r6, r7]) rfl ⟨⟨.map o1, .map o2, .map o3⟩, _, rfl, OwnSl.nil, HYS.out, HBY.out⟩
      case pos =>
      subst he
      have HA2 : Hid (resGo S S2 (ls.map Prod.fst ++ [(y2, i2, l2)]) ((l.map Prod.fst).drop (n + 1)) = R) := Lib.hid (by rw [HD.out]; exact (if_neg (by simp)).symm)
      have d1 : ((0 : Int) != 0) = false := rfl
      clear HD
      go_upto_region 11 with fail
      obtain ⟨inf, hi1, hi2, hi3, hi4⟩ := info_parts slInfo
      have HI1 := Lib.hid hi1
      have HI2 := Lib.hid hi2
      have HI3 := Lib.hid hi3
      have HI4 := Lib.hid hi4
      clear hi1 hi2 hi3 hi4
      have t0 : w4.cell? ⟨tb, 0, none⟩ = some (.int .i64 S2.y) := Bk.cell (HKT.out) 0
      have t1 : w4.cell? ⟨tb, 1, none⟩ = some (.int .i64 S2.i) := Bk.cell (HKT.out) 1
      have t2 : w4.cell? ⟨tb, 2, none⟩ = some (.int .i64 S2.o) := Bk.cell (HKT.out) 2
      have t3 : w4.cell? ⟨tb, 3, none⟩ = some (.map p1) := Bk.cell (HKT.out) 3
      have t4 : w4.cell? ⟨tb, 4, none⟩ = some (.map p2) := Bk.cell (HKT.out) 4
      have t5 : w4.cell? ⟨tb, 5, none⟩ = some (.int .i64 S2.tb) := Bk.cell (HKT.out) 5
      have t6 : w4.cell? ⟨tb, 6, none⟩ = some (.int .i64 S2.tt) := Bk.cell (HKT.out) 6
      have t7 : w4.cell? ⟨tb, 7, none⟩ = some (.map p3) := Bk.cell (HKT.out) 7
      have s0 : w4.cell? ⟨pb, 0, none⟩ = some (.int .i64 y2) := Bk.cell (HKP.out) 0
      have s1 : w4.cell? ⟨pb, 1, none⟩ = some (.int .i64 i2) := Bk.cell (HKP.out) 1
      have s2 : w4.cell? ⟨pb, 2, none⟩ = some (.slice A2 nl cap2) := Bk.cell (HKP.out) 2
      have k0 : w4.cell? ⟨nb, 0, none⟩ = some (.int .i64 now.y) := Bk.cell (HW4.out.n) 0
      have k1 : w4.cell? ⟨nb, 1, none⟩ = some (.int .i64 now.i) := Bk.cell (HW4.out.n) 1
      have k2 : w4.cell? ⟨nb, 2, none⟩ = some (.int .i64 now.o) := Bk.cell (HW4.out.n) 2
      have k3 : w4.cell? ⟨nb, 3, none⟩ = some (.map n1) := Bk.cell (HW4.out.n) 3
      have k4 : w4.cell? ⟨nb, 4, none⟩ = some (.map n2) := Bk.cell (HW4.out.n) 4
      have k5 : w4.cell? ⟨nb, 5, none⟩ = some (.int .i64 now.tb) := Bk.cell (HW4.out.n) 5
      have k6 : w4.cell? ⟨nb, 6, none⟩ = some (.int .i64 now.tt) := Bk.cell (HW4.out.n) 6
      have k7 : w4.cell? ⟨nb, 7, none⟩ = some (.map n3) := Bk.cell (HW4.out.n) 7
      have f0 : w4.frozen? ⟨nb, 0, none⟩ = false := Bk.frozen (HW4.out.n) 0
      have f1 : w4.frozen? ⟨nb, 1, none⟩ = false := Bk.frozen (HW4.out.n) 1
      have f2 : w4.frozen? ⟨nb, 2, none⟩ = false := Bk.frozen (HW4.out.n) 2
      have f3 : w4.frozen? ⟨nb, 3, none⟩ = false := Bk.frozen (HW4.out.n) 3
      have f4 : w4.frozen? ⟨nb, 4, none⟩ = false := Bk.frozen (HW4.out.n) 4
      have f5 : w4.frozen? ⟨nb, 5, none⟩ = false := Bk.frozen (HW4.out.n) 5
      have f6 : w4.frozen? ⟨nb, 6, none⟩ = false := Bk.frozen (HW4.out.n) 6
      have f7 : w4.frozen? ⟨nb, 7, none⟩ = false := Bk.frozen (HW4.out.n) 7
      have kd0 : w4.drew.cell? ⟨nb, 0, none⟩ = some (.int .i64 now.y) := Bk.cell (bkBel HW4.out.n (bDrew _)) 0
      have kd1 : w4.drew.cell? ⟨nb, 1, none⟩ = some (.int .i64 now.i) := Bk.cell (bkBel HW4.out.n (bDrew _)) 1
      have kd2 : w4.drew.cell? ⟨nb, 2, none⟩ = some (.int .i64 now.o) := Bk.cell (bkBel HW4.out.n (bDrew _)) 2
      have kd3 : w4.drew.cell? ⟨nb, 3, none⟩ = some (.map n1) := Bk.cell (bkBel HW4.out.n (bDrew _)) 3
      have kd4 : w4.drew.cell? ⟨nb, 4, none⟩ = some (.map n2) := Bk.cell (bkBel HW4.out.n (bDrew _)) 4
      have kd5 : w4.drew.cell? ⟨nb, 5, none⟩ = some (.int .i64 now.tb) := Bk.cell (bkBel HW4.out.n (bDrew _)) 5
      have kd6 : w4.drew.cell? ⟨nb, 6, none⟩ = some (.int .i64 now.tt) := Bk.cell (bkBel HW4.out.n (bDrew _)) 6
      have kd7 : w4.drew.cell? ⟨nb, 7, none⟩ = some (.map n3) := Bk.cell (bkBel HW4.out.n (bDrew _)) 7
      have fd0 : w4.drew.frozen? ⟨nb, 0, none⟩ = false := Bk.frozen (bkBel HW4.out.n (bDrew _)) 0
      have fd1 : w4.drew.frozen? ⟨nb, 1, none⟩ = false := Bk.frozen (bkBel HW4.out.n (bDrew _)) 1
      have fd2 : w4.drew.frozen? ⟨nb, 2, none⟩ = false := Bk.frozen (bkBel HW4.out.n (bDrew _)) 2
      have fd3 : w4.drew.frozen? ⟨nb, 3, none⟩ = false := Bk.frozen (bkBel HW4.out.n (bDrew _)) 3
      have fd4 : w4.drew.frozen? ⟨nb, 4, none⟩ = false := Bk.frozen (bkBel HW4.out.n (bDrew _)) 4
      have fd5 : w4.drew.frozen? ⟨nb, 5, none⟩ = false := Bk.frozen (bkBel HW4.out.n (bDrew _)) 5
      have fd6 : w4.drew.frozen? ⟨nb, 6, none⟩ = false := Bk.frozen (bkBel HW4.out.n (bDrew _)) 6
      have fd7 : w4.drew.frozen? ⟨nb, 7, none⟩ = false := Bk.frozen (bkBel HW4.out.n (bDrew _)) 7
      have no1 : tb ≠ nb := by have := HNT.out; omega
      have no2 : pb ≠ nb := by have := HNT.out; omega
      have no3 : nb ≠ w4.heap.size := by have := HNT.out; omega
      have hlt1 : nb < w4.heap.size := by have := HNT.out; omega
      have hlt2 : tb < w4.heap.size := by have := HNT.out; omega
      have hlt3 : pb < w4.heap.size := by have := HNT.out; omega
      have hab : Below w4.heap.size w4 (w4.drew.alloc (.cells #[.int .i64 y2, .int .i64 i2, .slice A2 nl cap2] 41)) := bTrans (bDrew _) (bAlloc _ _)
      have HAB := Lib.hid hab
      have HOW : Hid ((w4.drew.alloc (.cells #[.int .i64 y2, .int .i64 i2, .slice A2 nl cap2] 41)).ownsRow (nb + 1) 41 3 ov ls.length (rowOf encSl ls)) := Lib.hid (HO4.out.below hab).1
      have HN : Hid (∀ j u, (encSl ((y2, i2, l2), A2, cap2))[j]? = some u → (w4.drew.alloc (.cells #[.int .i64 y2, .int .i64 i2, .slice A2 nl cap2] 41)).cell? ((⟨w4.heap.size, 0, none⟩ : Addr).add j) = some u) := Lib.hid (by
        have h2 := World.news_of_block (new_block w4.drew (.cells #[.int .i64 y2, .int .i64 i2, .slice A2 nl cap2] 41))
        intro j u hu
        refine h2 j u ?_
        rw [← HNL.out]
        exact hu)
      have HSZ : Hid (nb + 1 ≤ (w4.drew.alloc (.cells #[.int .i64 y2, .int .i64 i2, .slice A2 nl cap2] 41)).heap.size) := Lib.hid (by have := hab.size; omega)
      have HLM : Hid (ls.length + 1 ≤ 1000000) := Lib.hid (by have := HLL.out; omega)
      have KAP : Hid (∀ W, (w4.drew.alloc (.cells #[.int .i64 y2, .int .i64 i2, .slice A2 nl cap2] 41)).grownBy W ov.ownBlock → Bk tb 33 #[.int .i64 S2.y, .int .i64 S2.i, .int .i64 S2.o, .map p1, .map p2, .int .i64 S2.tb, .int .i64 S2.tt, .map p3] W ∧ Bk pb 41 #[.int .i64 y2, .int .i64 i2, .slice A2 nl cap2] W ∧ ReW w.heap.size sb zb nb S ⟨.map o1, .map o2, .map o3⟩ now ⟨.map n1, .map n2, .map n3⟩ W ∧ Below w.heap.size w W) := Lib.hid (fun W hg => by
        have n1 : ∀ x, x ≤ nb → some x ≠ ov.ownBlock := fun x hx he => by have := HOB.out x he.symm; omega
        have n2 : ∀ x, tb ≤ x → some x ≠ ov.ownBlock := fun x hx he => by have := HOB.out x he.symm; omega
        have hne := HNE.out
        have hnt := HNT.out
        exact ⟨(bkBel HKT.out hab).grownBy hg (n2 _ (by omega)), (bkBel HKP.out hab).grownBy hg (n2 _ (by omega)), ⟨(bkBel HW4.out.s hab).grownBy hg (n1 _ (by omega)), (bkBel HW4.out.z hab).grownBy hg (n1 _ (by omega)), (bkBel HW4.out.n hab).grownBy hg (n1 _ (by omega))⟩, (bTrans HB4.out hab).grown hg (bTrans HB4.out hab).size (fun j hj => by have := HOB.out j hj; omega)⟩)
      have HKC : Hid (∀ W, (w4.drew.alloc (.cells #[.int .i64 y2, .int .i64 i2, .slice A2 nl cap2] 41)).grownBy W ov.ownBlock → W.cell? ⟨tb, 0, none⟩ = some (.int .i64 S2.y) ∧ W.cell? ⟨tb, 1, none⟩ = some (.int .i64 S2.i) ∧ W.cell? ⟨tb, 2, none⟩ = some (.int .i64 S2.o) ∧ W.cell? ⟨tb, 3, none⟩ = some (.map p1) ∧ W.cell? ⟨tb, 4, none⟩ = some (.map p2) ∧ W.cell? ⟨tb, 5, none⟩ = some (.int .i64 S2.tb) ∧ W.cell? ⟨tb, 6, none⟩ = some (.int .i64 S2.tt) ∧ W.cell? ⟨tb, 7, none⟩ = some (.map p3) ∧ W.cell? ⟨pb, 0, none⟩ = some (.int .i64 y2) ∧ W.cell? ⟨pb, 1, none⟩ = some (.int .i64 i2) ∧ W.cell? ⟨pb, 2, none⟩ = some (.slice A2 nl cap2)) := Lib.hid (fun W hg => by
        have q1 := (KAP.out W hg).1
        have q2 := (KAP.out W hg).2.1
        exact ⟨q1.cell 0, q1.cell 1, q1.cell 2, q1.cell 3, q1.cell 4, q1.cell 5, q1.cell 6, q1.cell 7, q2.cell 0, q2.cell 1, q2.cell 2⟩)
      have HXC : Hid (∀ W, (w4.drew.alloc (.cells #[.int .i64 y2, .int .i64 i2, .slice A2 nl cap2] 41)).grownBy W ov.ownBlock → W.cell? ⟨nb, 0, none⟩ = some (.int .i64 now.y) ∧ W.cell? ⟨nb, 1, none⟩ = some (.int .i64 now.i) ∧ W.cell? ⟨nb, 2, none⟩ = some (.int .i64 now.o) ∧ W.cell? ⟨nb, 3, none⟩ = some (.map n1) ∧ W.cell? ⟨nb, 4, none⟩ = some (.map n2) ∧ W.cell? ⟨nb, 5, none⟩ = some (.int .i64 now.tb) ∧ W.cell? ⟨nb, 6, none⟩ = some (.int .i64 now.tt) ∧ W.cell? ⟨nb, 7, none⟩ = some (.map n3) ∧ W.frozen? ⟨nb, 0, none⟩ = false ∧ W.frozen? ⟨nb, 1, none⟩ = false ∧ W.frozen? ⟨nb, 2, none⟩ = false ∧ W.frozen? ⟨nb, 3, none⟩ = false ∧ W.frozen? ⟨nb, 4, none⟩ = false ∧ W.frozen? ⟨nb, 5, none⟩ = false ∧ W.frozen? ⟨nb, 6, none⟩ = false ∧ W.frozen? ⟨nb, 7, none⟩ = false) := Lib.hid (fun W hg => by
        have q1 := (KAP.out W hg).2.2.1.n
        exact ⟨q1.cell 0, q1.cell 1, q1.cell 2, q1.cell 3, q1.cell 4, q1.cell 5, q1.cell 6, q1.cell 7, q1.frozen 0, q1.frozen 1, q1.frozen 2, q1.frozen 3, q1.frozen 4, q1.frozen 5, q1.frozen 6, q1.frozen 7⟩)
      have HSS : Hid (∀ W : World, (W.cell? ⟨tb, 0, none⟩ = some (.int .i64 S2.y) ∧ W.cell? ⟨tb, 1, none⟩ = some (.int .i64 S2.i) ∧ W.cell? ⟨tb, 2, none⟩ = some (.int .i64 S2.o) ∧ W.cell? ⟨tb, 3, none⟩ = some (.map p1) ∧ W.cell? ⟨tb, 4, none⟩ = some (.map p2) ∧ W.cell? ⟨tb, 5, none⟩ = some (.int .i64 S2.tb) ∧ W.cell? ⟨tb, 6, none⟩ = some (.int .i64 S2.tt) ∧ W.cell? ⟨tb, 7, none⟩ = some (.map p3) ∧ W.cell? ⟨pb, 0, none⟩ = some (.int .i64 y2) ∧ W.cell? ⟨pb, 1, none⟩ = some (.int .i64 i2) ∧ W.cell? ⟨pb, 2, none⟩ = some (.slice A2 nl cap2)) → ((((((((W.setCell ⟨nb, 0, none⟩ (.int .i64 S2.y)).setCell ⟨nb, 1, none⟩ (.int .i64 S2.i)).setCell ⟨nb, 2, none⟩ (.int .i64 S2.o)).setCell ⟨nb, 3, none⟩ (.map p1)).setCell ⟨nb, 4, none⟩ (.map p2)).setCell ⟨nb, 5, none⟩ (.int .i64 S2.tb)).setCell ⟨nb, 6, none⟩ (.int .i64 S2.tt)).setCell ⟨nb, 7, none⟩ (.map p3)).cell? ⟨tb, 0, none⟩ = some (.int .i64 S2.y) ∧ ((((((((W.setCell ⟨nb, 0, none⟩ (.int .i64 S2.y)).setCell ⟨nb, 1, none⟩ (.int .i64 S2.i)).setCell ⟨nb, 2, none⟩ (.int .i64 S2.o)).setCell ⟨nb, 3, none⟩ (.map p1)).setCell ⟨nb, 4, none⟩ (.map p2)).setCell ⟨nb, 5, none⟩ (.int .i64 S2.tb)).setCell ⟨nb, 6, none⟩ (.int .i64 S2.tt)).setCell ⟨nb, 7, none⟩ (.map p3)).cell? ⟨tb, 1, none⟩ = some (.int .i64 S2.i) ∧ ((((((((W.setCell ⟨nb, 0, none⟩ (.int .i64 S2.y)).setCell ⟨nb, 1, none⟩ (.int .i64 S2.i)).setCell ⟨nb, 2, none⟩ (.int .i64 S2.o)).setCell ⟨nb, 3, none⟩ (.map p1)).setCell ⟨nb, 4, none⟩ (.map p2)).setCell ⟨nb, 5, none⟩ (.int .i64 S2.tb)).setCell ⟨nb, 6, none⟩ (.int .i64 S2.tt)).setCell ⟨nb, 7, none⟩ (.map p3)).cell? ⟨tb, 2, none⟩ = some (.int .i64 S2.o) ∧ ((((((((W.setCell ⟨nb, 0, none⟩ (.int .i64 S2.y)).setCell ⟨nb, 1, none⟩ (.int .i64 S2.i)).setCell ⟨nb, 2, none⟩ (.int .i64 S2.o)).setCell ⟨nb, 3, none⟩ (.map p1)).setCell ⟨nb, 4, none⟩ (.map p2)).setCell ⟨nb, 5, none⟩ (.int .i64 S2.tb)).setCell ⟨nb, 6, none⟩ (.int .i64 S2.tt)).setCell ⟨nb, 7, none⟩ (.map p3)).cell? ⟨tb, 3, none⟩ = some (.map p1) ∧ ((((((((W.setCell ⟨nb, 0, none⟩ (.int .i64 S2.y)).setCell ⟨nb, 1, none⟩ (.int .i64 S2.i)).setCell ⟨nb, 2, none⟩ (.int .i64 S2.o)).setCell ⟨nb, 3, none⟩ (.map p1)).setCell ⟨nb, 4, none⟩ (.map p2)).setCell ⟨nb, 5, none⟩ (.int .i64 S2.tb)).setCell ⟨nb, 6, none⟩ (.int .i64 S2.tt)).setCell ⟨nb, 7, none⟩ (.map p3)).cell? ⟨tb, 4, none⟩ = some (.map p2) ∧ ((((((((W.setCell ⟨nb, 0, none⟩ (.int .i64 S2.y)).setCell ⟨nb, 1, none⟩ (.int .i64 S2.i)).setCell ⟨nb, 2, none⟩ (.int .i64 S2.o)).setCell ⟨nb, 3, none⟩ (.map p1)).setCell ⟨nb, 4, none⟩ (.map p2)).setCell ⟨nb, 5, none⟩ (.int .i64 S2.tb)).setCell ⟨nb, 6, none⟩ (.int .i64 S2.tt)).setCell ⟨nb, 7, none⟩ (.map p3)).cell? ⟨tb, 5, none⟩ = some (.int .i64 S2.tb) ∧ ((((((((W.setCell ⟨nb, 0, none⟩ (.int .i64 S2.y)).setCell ⟨nb, 1, none⟩ (.int .i64 S2.i)).setCell ⟨nb, 2, none⟩ (.int .i64 S2.o)).setCell ⟨nb, 3, none⟩ (.map p1)).setCell ⟨nb, 4, none⟩ (.map p2)).setCell ⟨nb, 5, none⟩ (.int .i64 S2.tb)).setCell ⟨nb, 6, none⟩ (.int .i64 S2.tt)).setCell ⟨nb, 7, none⟩ (.map p3)).cell? ⟨tb, 6, none⟩ = some (.int .i64 S2.tt) ∧ ((((((((W.setCell ⟨nb, 0, none⟩ (.int .i64 S2.y)).setCell ⟨nb, 1, none⟩ (.int .i64 S2.i)).setCell ⟨nb, 2, none⟩ (.int .i64 S2.o)).setCell ⟨nb, 3, none⟩ (.map p1)).setCell ⟨nb, 4, none⟩ (.map p2)).setCell ⟨nb, 5, none⟩ (.int .i64 S2.tb)).setCell ⟨nb, 6, none⟩ (.int .i64 S2.tt)).setCell ⟨nb, 7, none⟩ (.map p3)).cell? ⟨tb, 7, none⟩ = some (.map p3) ∧ ((((((((W.setCell ⟨nb, 0, none⟩ (.int .i64 S2.y)).setCell ⟨nb, 1, none⟩ (.int .i64 S2.i)).setCell ⟨nb, 2, none⟩ (.int .i64 S2.o)).setCell ⟨nb, 3, none⟩ (.map p1)).setCell ⟨nb, 4, none⟩ (.map p2)).setCell ⟨nb, 5, none⟩ (.int .i64 S2.tb)).setCell ⟨nb, 6, none⟩ (.int .i64 S2.tt)).setCell ⟨nb, 7, none⟩ (.map p3)).cell? ⟨pb, 0, none⟩ = some (.int .i64 y2) ∧ ((((((((W.setCell ⟨nb, 0, none⟩ (.int .i64 S2.y)).setCell ⟨nb, 1, none⟩ (.int .i64 S2.i)).setCell ⟨nb, 2, none⟩ (.int .i64 S2.o)).setCell ⟨nb, 3, none⟩ (.map p1)).setCell ⟨nb, 4, none⟩ (.map p2)).setCell ⟨nb, 5, none⟩ (.int .i64 S2.tb)).setCell ⟨nb, 6, none⟩ (.int .i64 S2.tt)).setCell ⟨nb, 7, none⟩ (.map p3)).cell? ⟨pb, 1, none⟩ = some (.int .i64 i2) ∧ ((((((((W.setCell ⟨nb, 0, none⟩ (.int .i64 S2.y)).setCell ⟨nb, 1, none⟩ (.int .i64 S2.i)).setCell ⟨nb, 2, none⟩ (.int .i64 S2.o)).setCell ⟨nb, 3, none⟩ (.map p1)).setCell ⟨nb, 4, none⟩ (.map p2)).setCell ⟨nb, 5, none⟩ (.int .i64 S2.tb)).setCell ⟨nb, 6, none⟩ (.int .i64 S2.tt)).setCell ⟨nb, 7, none⟩ (.map p3)).cell? ⟨pb, 2, none⟩ = some (.slice A2 nl cap2)) := Lib.hid (fun W hg => by
        have q1 : ∀ o, ((((((((W.setCell ⟨nb, 0, none⟩ (.int .i64 S2.y)).setCell ⟨nb, 1, none⟩ (.int .i64 S2.i)).setCell ⟨nb, 2, none⟩ (.int .i64 S2.o)).setCell ⟨nb, 3, none⟩ (.map p1)).setCell ⟨nb, 4, none⟩ (.map p2)).setCell ⟨nb, 5, none⟩ (.int .i64 S2.tb)).setCell ⟨nb, 6, none⟩ (.int .i64 S2.tt)).setCell ⟨nb, 7, none⟩ (.map p3)).cell? ⟨tb, o, none⟩ = W.cell? ⟨tb, o, none⟩ := cell_set8 W no1 (.int .i64 S2.y) (.int .i64 S2.i) (.int .i64 S2.o) (.map p1) (.map p2) (.int .i64 S2.tb) (.int .i64 S2.tt) (.map p3)
        have q2 : ∀ o, ((((((((W.setCell ⟨nb, 0, none⟩ (.int .i64 S2.y)).setCell ⟨nb, 1, none⟩ (.int .i64 S2.i)).setCell ⟨nb, 2, none⟩ (.int .i64 S2.o)).setCell ⟨nb, 3, none⟩ (.map p1)).setCell ⟨nb, 4, none⟩ (.map p2)).setCell ⟨nb, 5, none⟩ (.int .i64 S2.tb)).setCell ⟨nb, 6, none⟩ (.int .i64 S2.tt)).setCell ⟨nb, 7, none⟩ (.map p3)).cell? ⟨pb, o, none⟩ = W.cell? ⟨pb, o, none⟩ := cell_set8 W no2 (.int .i64 S2.y) (.int .i64 S2.i) (.int .i64 S2.o) (.map p1) (.map p2) (.int .i64 S2.tb) (.int .i64 S2.tt) (.map p3)
        simp only [q1, q2]
        exact hg)
      clear hab
      go_wp2_with fail
      go_region_held_law (fun W => W.cell? ⟨tb, 0, none⟩ = some (.int .i64 S2.y) ∧ W.cell? ⟨tb, 1, none⟩ = some (.int .i64 S2.i) ∧ W.cell? ⟨tb, 2, none⟩ = some (.int .i64 S2.o) ∧ W.cell? ⟨tb, 3, none⟩ = some (.map p1) ∧ W.cell? ⟨tb, 4, none⟩ = some (.map p2) ∧ W.cell? ⟨tb, 5, none⟩ = some (.int .i64 S2.tb) ∧ W.cell? ⟨tb, 6, none⟩ = some (.int .i64 S2.tt) ∧ W.cell? ⟨tb, 7, none⟩ = some (.map p3) ∧ W.cell? ⟨pb, 0, none⟩ = some (.int .i64 y2) ∧ W.cell? ⟨pb, 1, none⟩ = some (.int .i64 i2) ∧ W.cell? ⟨pb, 2, none⟩ = some (.slice A2 nl cap2)) (first | (with_reducible exact HKQ.out) | (with_reducible exact HSS.out _ HKQ.out) | go_keep) (first | (refine step_append_lies _ (by rfl) _ _ _ (by rfl) (nb + 1) 41 inf _ 3 40 Tryz.underlying25 HI1.out HI2.out HI3.out HI4.out rfl (by decide) ov ls.length (rowOf encSl ls) rfl HOW.out ⟨w4.heap.size, 0, none⟩ 1 1 (encSl ((y2, i2, l2), A2, cap2)) rfl rfl HN.out (encSl_one _) (by decide) (by have := HLM.out; simp only [maxLen]; omega) (by have := HLM.out; omega) HSZ.out _ rfl ?_; intro g cap9 w9 hown9 hgrow9 hat9 hlt9; obtain ⟨x0, x1, x2, x3, x4, x5, x6, x7, z0, z1, z2, z3, z4, z5, z6, z7⟩ := HXC.out _ hgrow9; have HKQ : Hid (w9.cell? ⟨tb, 0, none⟩ = some (.int .i64 S2.y) ∧ w9.cell? ⟨tb, 1, none⟩ = some (.int .i64 S2.i) ∧ w9.cell? ⟨tb, 2, none⟩ = some (.int .i64 S2.o) ∧ w9.cell? ⟨tb, 3, none⟩ = some (.map p1) ∧ w9.cell? ⟨tb, 4, none⟩ = some (.map p2) ∧ w9.cell? ⟨tb, 5, none⟩ = some (.int .i64 S2.tb) ∧ w9.cell? ⟨tb, 6, none⟩ = some (.int .i64 S2.tt) ∧ w9.cell? ⟨tb, 7, none⟩ = some (.map p3) ∧ w9.cell? ⟨pb, 0, none⟩ = some (.int .i64 y2) ∧ w9.cell? ⟨pb, 1, none⟩ = some (.int .i64 i2) ∧ w9.cell? ⟨pb, 2, none⟩ = some (.slice A2 nl cap2)) := Lib.hid (HKC.out _ hgrow9)))
      obtain ⟨y, hy⟩ : ∃ y, ((((((((w9.setCell ⟨nb, 0, none⟩ (.int .i64 S2.y)).setCell ⟨nb, 1, none⟩ (.int .i64 S2.i)).setCell ⟨nb, 2, none⟩ (.int .i64 S2.o)).setCell ⟨nb, 3, none⟩ (.map p1)).setCell ⟨nb, 4, none⟩ (.map p2)).setCell ⟨nb, 5, none⟩ (.int .i64 S2.tb)).setCell ⟨nb, 6, none⟩ (.int .i64 S2.tt)).setCell ⟨nb, 7, none⟩ (.map p3)) = y := ⟨_, rfl⟩
      have hky : Kep nb nb w9 y := by rw [← hy]; exact kep_set8 w9 (.int .i64 S2.y) (.int .i64 S2.i) (.int .i64 S2.o) (.map p1) (.map p2) (.int .i64 S2.tb) (.int .i64 S2.tt) (.map p3)
      obtain ⟨_, _, hrw, hbb⟩ := KAP.out _ hgrow9
      have hne := HNE.out
      have HWY : Hid (ReW w.heap.size sb zb nb S ⟨.map o1, .map o2, .map o3⟩ S2 ⟨.map p1, .map p2, .map p3⟩ y) := Lib.hid ⟨hky.bk hrw.s (by omega) (by omega), hky.bk hrw.z (by omega) (by omega), by rw [← hy]; exact bk_set8 hrw.n (.int .i64 S2.y) (.int .i64 S2.i) (.int .i64 S2.o) (.map p1) (.map p2) (.int .i64 S2.tb) (.int .i64 S2.tt) (.map p3)⟩
      have HBY : Hid (Below w.heap.size w y) := Lib.hid (belKep hbb hky (by omega))
      have ho9 : Own encSl 3 41 (nb + 1) (.slice (some ⟨g, 0, none⟩) (ls.length + 1) cap9) (ls ++ [((y2, i2, l2), A2, cap2)]) w9 := by
        unfold Own
        rw [rowOf_append, rowOf_one, List.length_append]
        exact hown9
      have hos9 : OwnSl (nb + 1) (.slice (some ⟨g, 0, none⟩) (ls.length + 1) cap9) (ls ++ [((y2, i2, l2), A2, cap2)]) w9 := (HO4.out.below HAB.out).snoc (by rw [← HNL.out] at HL4; exact HL4.out.none_ ⟨HAB.out.os, HAB.out.tape, HAB.out.output, HAB.out.size, fun i hi _ => HAB.out.block i hi⟩) ho9 hgrow9
      have HOY : Hid (OwnSl (nb + 1) (.slice (some ⟨g, 0, none⟩) (ls.length + 1) cap9) (ls ++ [((y2, i2, l2), A2, cap2)]) y) := Lib.hid (hos9.kep hky (Nat.lt_succ_self nb) (Nat.lt_succ_self nb))
      have HSY : Hid (StOk S2 ⟨.map p1, .map p2, .map p3⟩ (n0 + 384 * (n + 1)) y) := Lib.hid (((HS4.out.below HAB.out).grown (HO4.out.below HAB.out).1 hgrow9).kep hrw.n hky)
      have HLY : Hid ((ls ++ [((y2, i2, l2), A2, cap2)]).length ≤ n + 1) := Lib.hid (by rw [List.length_append]; simp; exact HLL.out)
      have HAY : Hid (resGo S S2 ((ls ++ [((y2, i2, l2), A2, cap2)]).map Prod.fst) ((l.map Prod.fst).drop (n + 1)) = R) := Lib.hid (by rw [List.map_append]; exact HA2.out)
      clear hky hrw hbb ho9 hos9 hown9 hgrow9 hat9 x0 x1 x2 x3 x4 x5 x6 x7 z0 z1 z2 z3 z4 z5 z6 z7 t0 t1 t2 t3 t4 t5 t6 t7 s0 s1 s2 k0 k1 k2 k3 k4 k5 k6 k7 f0 f1 f2 f3 f4 f5 f6 f7 kd0 kd1 kd2 kd3 kd4 kd5 kd6 kd7 fd0 fd1 fd2 fd3 fd4 fd5 fd6 fd7
      go_wp2
      go_roundg (l.length - (n + 1))
      case measure => omega
      case rel => exact ⟨_, n + 1, S2, ⟨.map p1, .map p2, .map p3⟩, ls ++ [((y2, i2, l2), A2, cap2)], rfl, by omega, by go_num, HAY, HSY, HWY, HOY, HLY, HBY⟩
    · obtain rfl : n = l.length := by omega
      have hR : R = (ls.map Prod.fst, now, 0) := by
        have h := HA.out
        rw [show l.length = (l.map Prod.fst).length by simp, List.drop_length] at h
        exact h.symm
      subst hR
      obtain ⟨y, hy⟩ : ∃ y, ((((((((wr.setCell ⟨zb, 0, none⟩ (.int .i64 now.y)).setCell ⟨zb, 1, none⟩ (.int .i64 now.i)).setCell ⟨zb, 2, none⟩ (.int .i64 now.o)).setCell ⟨zb, 3, none⟩ (.map n1)).setCell ⟨zb, 4, none⟩ (.map n2)).setCell ⟨zb, 5, none⟩ (.int .i64 now.tb)).setCell ⟨zb, 6, none⟩ (.int .i64 now.tt)).setCell ⟨zb, 7, none⟩ (.map n3)).drew = y := ⟨_, rfl⟩
      have hky : Bk zb 33 #[.int .i64 now.y, .int .i64 now.i, .int .i64 now.o, .map n1, .map n2, .int .i64 now.tb, .int .i64 now.tt, .map n3] y := by rw [← hy]; exact bkBel (bk_set8 HW.out.z (.int .i64 now.y) (.int .i64 now.i) (.int .i64 now.o) (.map n1) (.map n2) (.int .i64 now.tb) (.int .i64 now.tt) (.map n3)) (bDrew _)
      have hkk : Kep zb zb wr y := by rw [← hy]; exact (kep_set8 wr (.int .i64 now.y) (.int .i64 now.i) (.int .i64 now.o) (.map n1) (.map n2) (.int .i64 now.tb) (.int .i64 now.tt) (.map n3)).trans (Kep.of_below (bDrew _))
      have HBY : Hid (Below w.heap.size w y) := Lib.hid (belKep HB.out hkk (by have := HNE.out; omega))
      have r0 : y.cell? ⟨zb, 0, none⟩ = some (.int .i64 now.y) := Bk.cell (hky) 0
      have r1 : y.cell? ⟨zb, 1, none⟩ = some (.int .i64 now.i) := Bk.cell (hky) 1
      have r2 : y.cell? ⟨zb, 2, none⟩ = some (.int .i64 now.o) := Bk.cell (hky) 2
      have r3 : y.cell? ⟨zb, 3, none⟩ = some (.map n1) := Bk.cell (hky) 3
      have r4 : y.cell? ⟨zb, 4, none⟩ = some (.map n2) := Bk.cell (hky) 4
      have r5 : y.cell? ⟨zb, 5, none⟩ = some (.int .i64 now.tb) := Bk.cell (hky) 5
      have r6 : y.cell? ⟨zb, 6, none⟩ = some (.int .i64 now.tt) := Bk.cell (hky) 6
      have r7 : y.cell? ⟨zb, 7, none⟩ = some (.map n3) := Bk.cell (hky) 7
      have q0 : wr.cell? ⟨zb, 0, none⟩ = some (.int .i64 0) := Bk.cell (HW.out.z) 0
      have q1 : wr.cell? ⟨zb, 1, none⟩ = some (.int .i64 0) := Bk.cell (HW.out.z) 1
      have q2 : wr.cell? ⟨zb, 2, none⟩ = some (.int .i64 0) := Bk.cell (HW.out.z) 2
      have q3 : wr.cell? ⟨zb, 3, none⟩ = some (.map none) := Bk.cell (HW.out.z) 3
      have q4 : wr.cell? ⟨zb, 4, none⟩ = some (.map none) := Bk.cell (HW.out.z) 4
      have q5 : wr.cell? ⟨zb, 5, none⟩ = some (.int .i64 0) := Bk.cell (HW.out.z) 5
      have q6 : wr.cell? ⟨zb, 6, none⟩ = some (.int .i64 0) := Bk.cell (HW.out.z) 6
      have q7 : wr.cell? ⟨zb, 7, none⟩ = some (.map none) := Bk.cell (HW.out.z) 7
      have f0 : wr.frozen? ⟨zb, 0, none⟩ = false := Bk.frozen (HW.out.z) 0
      have f1 : wr.frozen? ⟨zb, 1, none⟩ = false := Bk.frozen (HW.out.z) 1
      have f2 : wr.frozen? ⟨zb, 2, none⟩ = false := Bk.frozen (HW.out.z) 2
      have f3 : wr.frozen? ⟨zb, 3, none⟩ = false := Bk.frozen (HW.out.z) 3
      have f4 : wr.frozen? ⟨zb, 4, none⟩ = false := Bk.frozen (HW.out.z) 4
      have f5 : wr.frozen? ⟨zb, 5, none⟩ = false := Bk.frozen (HW.out.z) 5
      have f6 : wr.frozen? ⟨zb, 6, none⟩ = false := Bk.frozen (HW.out.z) 6
      have f7 : wr.frozen? ⟨zb, 7, none⟩ = false := Bk.frozen (HW.out.z) 7
      have p0 : wr.cell? ⟨nb, 0, none⟩ = some (.int .i64 now.y) := Bk.cell (HW.out.n) 0
      have p1 : wr.cell? ⟨nb, 1, none⟩ = some (.int .i64 now.i) := Bk.cell (HW.out.n) 1
      have p2 : wr.cell? ⟨nb, 2, none⟩ = some (.int .i64 now.o) := Bk.cell (HW.out.n) 2
      have p3 : wr.cell? ⟨nb, 3, none⟩ = some (.map n1) := Bk.cell (HW.out.n) 3
      have p4 : wr.cell? ⟨nb, 4, none⟩ = some (.map n2) := Bk.cell (HW.out.n) 4
      have p5 : wr.cell? ⟨nb, 5, none⟩ = some (.int .i64 now.tb) := Bk.cell (HW.out.n) 5
      have p6 : wr.cell? ⟨nb, 6, none⟩ = some (.int .i64 now.tt) := Bk.cell (HW.out.n) 6
      have p7 : wr.cell? ⟨nb, 7, none⟩ = some (.map n3) := Bk.cell (HW.out.n) 7
      have qx0 : wr.drew.cell? ⟨zb, 0, none⟩ = some (.int .i64 0) := Bk.cell (bkBel HW.out.z (bDrew _)) 0
      have qx1 : wr.drew.cell? ⟨zb, 1, none⟩ = some (.int .i64 0) := Bk.cell (bkBel HW.out.z (bDrew _)) 1
      have qx2 : wr.drew.cell? ⟨zb, 2, none⟩ = some (.int .i64 0) := Bk.cell (bkBel HW.out.z (bDrew _)) 2
      have qx3 : wr.drew.cell? ⟨zb, 3, none⟩ = some (.map none) := Bk.cell (bkBel HW.out.z (bDrew _)) 3
      have qx4 : wr.drew.cell? ⟨zb, 4, none⟩ = some (.map none) := Bk.cell (bkBel HW.out.z (bDrew _)) 4
      have qx5 : wr.drew.cell? ⟨zb, 5, none⟩ = some (.int .i64 0) := Bk.cell (bkBel HW.out.z (bDrew _)) 5
      have qx6 : wr.drew.cell? ⟨zb, 6, none⟩ = some (.int .i64 0) := Bk.cell (bkBel HW.out.z (bDrew _)) 6
      have qx7 : wr.drew.cell? ⟨zb, 7, none⟩ = some (.map none) := Bk.cell (bkBel HW.out.z (bDrew _)) 7
      have fx0 : wr.drew.frozen? ⟨zb, 0, none⟩ = false := Bk.frozen (bkBel HW.out.z (bDrew _)) 0
      have fx1 : wr.drew.frozen? ⟨zb, 1, none⟩ = false := Bk.frozen (bkBel HW.out.z (bDrew _)) 1
      have fx2 : wr.drew.frozen? ⟨zb, 2, none⟩ = false := Bk.frozen (bkBel HW.out.z (bDrew _)) 2
      have fx3 : wr.drew.frozen? ⟨zb, 3, none⟩ = false := Bk.frozen (bkBel HW.out.z (bDrew _)) 3
      have fx4 : wr.drew.frozen? ⟨zb, 4, none⟩ = false := Bk.frozen (bkBel HW.out.z (bDrew _)) 4
      have fx5 : wr.drew.frozen? ⟨zb, 5, none⟩ = false := Bk.frozen (bkBel HW.out.z (bDrew _)) 5
      have fx6 : wr.drew.frozen? ⟨zb, 6, none⟩ = false := Bk.frozen (bkBel HW.out.z (bDrew _)) 6
      have fx7 : wr.drew.frozen? ⟨zb, 7, none⟩ = false := Bk.frozen (bkBel HW.out.z (bDrew _)) 7
      have px0 : wr.drew.cell? ⟨nb, 0, none⟩ = some (.int .i64 now.y) := Bk.cell (bkBel HW.out.n (bDrew _)) 0
      have px1 : wr.drew.cell? ⟨nb, 1, none⟩ = some (.int .i64 now.i) := Bk.cell (bkBel HW.out.n (bDrew _)) 1
      have px2 : wr.drew.cell? ⟨nb, 2, none⟩ = some (.int .i64 now.o) := Bk.cell (bkBel HW.out.n (bDrew _)) 2
      have px3 : wr.drew.cell? ⟨nb, 3, none⟩ = some (.map n1) := Bk.cell (bkBel HW.out.n (bDrew _)) 3
      have px4 : wr.drew.cell? ⟨nb, 4, none⟩ = some (.map n2) := Bk.cell (bkBel HW.out.n (bDrew _)) 4
      have px5 : wr.drew.cell? ⟨nb, 5, none⟩ = some (.int .i64 now.tb) := Bk.cell (bkBel HW.out.n (bDrew _)) 5
      have px6 : wr.drew.cell? ⟨nb, 6, none⟩ = some (.int .i64 now.tt) := Bk.cell (bkBel HW.out.n (bDrew _)) 6
      have px7 : wr.drew.cell? ⟨nb, 7, none⟩ = some (.map n3) := Bk.cell (bkBel HW.out.n (bDrew _)) 7
      have no1 : nb ≠ zb := by have := HNE.out; omega
      have HYS : Hid (StOk now ⟨.map n1, .map n2, .map n3⟩ (n0 + 1572864) y) := Lib.hid ((HST.out.kep HW.out.z hkk).mono (by omega))
      have HOY : Hid (OwnSl w.heap.size ov ls y) := Lib.hid ((HOS.out.kep hkk (by have := HNE.out; omega) (by have := HNE.out; omega)).low (by have := HNE.out; omega))
      clear hky hkk
      go_wp2_with fail
      go_region
      all_goals
        go_wp2
        exact bodyPost_ret (v := .tuple #[ov, .agg #[.int .i64 now.y, .int .i64 now.i, .int .i64 now.o, .map n1, .map n2, .int .i64 now.tb, .int .i64 now.tt, .map n3], .int .i64 0]) (by simp [results, Tryz.results20, go_sem, r0, r1, r2, r3, r4, r5, r6, r7]) rfl ⟨⟨.map n1, .map n2, .map n3⟩, ov, rfl, ls, rfl, HOY.out, HYS.out, HBY.out⟩
end Go.Proofs.YtgepbkldgnjpfaaGreatDoor
