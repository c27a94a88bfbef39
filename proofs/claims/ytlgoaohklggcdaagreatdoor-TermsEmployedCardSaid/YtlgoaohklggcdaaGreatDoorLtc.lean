/- Merged from: Lt3 Lt4. -/
import Derived.Test.YtlgoaohklggcdaaGreatDoorLtb
namespace Go.Proofs.YtlgoaohklggcdaaGreatDoor
open Go.RowKit Go.Sort

theorem la_within (a b : Int) (w : World) (ha : 0 ≤ a ∧ a ≤ 4294967295) (hb : 0 ≤ b ∧ b ≤ 65535) : Calls Tryz.prog 18 #[.int .u32 a, .int .u16 b] w fun e w' => (∃ F n : Int, e = .returned (.agg #[.int .i64 F, .int .i64 (F + n)]) ∧ -25567 ≤ F ∧ F ≤ 83432 ∧ 0 ≤ n ∧ n ≤ 399) ∧ Below w.heap.size w w' := by
  obtain ⟨rb, hrb⟩ : ∃ x, w.heap.size = x := ⟨_, rfl⟩
  obtain ⟨w2, hw2⟩ : ∃ x, w.alloc (.cells #[.int .i64 0, .int .i64 0] 31) = x := ⟨_, rfl⟩
  have hk : Bk rb 31 #[.int .i64 0, .int .i64 0] w2 := by rw [← hw2, ← hrb]; exact Bk.new _ _ _
  have hb2 : Below w.heap.size w w2 := by rw [← hw2]; exact bAlloc _ _
  have R0 : w2.cell? ⟨rb, 0, none⟩ = some (.int .i64 0) := hk.cell 0
  have R1 : w2.cell? ⟨rb, 1, none⟩ = some (.int .i64 0) := hk.cell 1
  have G0 : w2.frozen? ⟨rb, 0, none⟩ = false := hk.frozen 0
  have G1 : w2.frozen? ⟨rb, 1, none⟩ = false := hk.frozen 1
  have HFIN : Hid (∀ x y, ((w2.setCell ⟨rb, 0, none⟩ x).setCell ⟨rb, 1, none⟩ y).cell? ⟨rb, 0, none⟩ = some x ∧ ((w2.setCell ⟨rb, 0, none⟩ x).setCell ⟨rb, 1, none⟩ y).cell? ⟨rb, 1, none⟩ = some y ∧ Below w.heap.size w ((w2.setCell ⟨rb, 0, none⟩ x).setCell ⟨rb, 1, none⟩ y)) := Lib.hid fun x y => by
    have hz := (hk.set_ 0 x).set_ 1 y
    exact ⟨hz.cell 0, hz.cell 1, (hb2.setCell (p := ⟨rb, 0, none⟩) (show w.heap.size ≤ rb by omega) x).setCell (p := ⟨rb, 1, none⟩) (show w.heap.size ≤ rb by omega) y⟩
  have HE := Lib.hid (And.intro hrb hw2)
  clear hrb hw2 hk hb2
  go_enter Tryz.func18, Tryz.ntmps18
  go_upto_region 1 with fail
  rw [HE.out.1, HE.out.2]
  clear HE
  go_wp2
  obtain ⟨z0, z1, z2⟩ := HFIN.out (.int .i64 (-25567 + a % 109000)) (.int .i64 (-25567 + a % 109000 + b % 400))
  exact bodyPost_ret (v := .agg #[.int .i64 (-25567 + a % 109000), .int .i64 (-25567 + a % 109000 + b % 400)]) (by simp [results, Tryz.results18, go_sem, z0, z1]) rfl ⟨⟨_, _, rfl, by omega, by omega, by omega, by omega⟩, z2⟩
theorem run_eqS (a b : Int) (w : World) : (binOp .eql 31 (.agg #[.int .i64 a, .int .i64 b]) (.agg #[.int .i64 a, .int .i64 b])).run Tryz.prog w = .ok (.bool true) w := by
  go_simp
set_option maxHeartbeats 4000000 in
set_option maxRecDepth 100000 in
theorem run_eq7 (f : Nat → Int) (w : World) : (binOp .eql 47 (.agg #[.int .i64 (f 0), .int .i64 (f 1), .int .i64 (f 2), .int .i64 (f 3), .int .i64 (f 4), .int .i64 (f 5), .int .i64 (f 6)]) (.agg #[.int .i64 (f 0), .int .i64 (f 1), .int .i64 (f 2), .int .i64 (f 3), .int .i64 (f 4), .int .i64 (f 5), .int .i64 (f 6)])).run Tryz.prog w = .ok (.bool true) w := by
  have u3 := Tryz.underlying3
  have a3 := Tryz.isAgg3
  have z3 := Tryz.sizeOf3
  rw [run_eql_struct]
  rw [show (10000 : Nat) = 9999 + 1 from rfl, Op.equalIn]
  simp only [Sem.run_bind, run_underlying Tryz.underlying47, Result.andThen_ok]
  simp only [Std.Legacy.Range.forIn_eq_forIn_range', Std.Legacy.Range.size, Nat.sub_zero, Nat.add_sub_cancel, Nat.div_one, List.range'_succ, List.range'_zero, List.forIn_cons, List.forIn_nil]
  go_simp
set_option maxHeartbeats 4000000 in
set_option maxRecDepth 100000 in
theorem la_like (t : Td) (w : World) : Calls Tryz.prog 22 #[.agg (tdC t), .agg (tdC t)] w fun e w' => e = .returned (.bool true) ∧ Below w.heap.size w w' := by
  have h1 := run_eqS t.fr t.to
  have h2 := run_eq7 t.h
  have HB : Hid (Below w.heap.size w ((w.alloc (.cells (tdC t) 50)).alloc (.cells (tdC t) 54))) := Lib.hid ((Grows.of_alloc _ _).alloc _).below
  unfold tdC at HB ⊢
  go_enter Tryz.func22, Tryz.ntmps22
  go_wp2
  go_ret
  exact ⟨rfl, HB.out⟩
end Go.Proofs.YtlgoaohklggcdaaGreatDoor

namespace Go.Proofs.YtlgoaohklggcdaaGreatDoor
open Go.RowKit Go.Sort

def ex1 : Fa := ⟨0, 1, 1, 19723, 0, ⟨#[]⟩, 1, ⟨#[]⟩⟩
def ex2 : Fa := ⟨0, 1, 2, 19723, 0, ⟨#[]⟩, 6000000, ⟨#[]⟩⟩
def ex3 : Fa := ⟨0, 1, 2, 19814, 0, ⟨#[]⟩, 7200000, ⟨#[]⟩⟩
def exL : List Fa := [ex1, ex2, ex3]
theorem fitE1 : FitW ex1 := ⟨by decide, by decide, by decide, by decide, by decide, by decide, by decide, by decide⟩
theorem fitE2 : FitW ex2 := ⟨by decide, by decide, by decide, by decide, by decide, by decide, by decide, by decide⟩
theorem fitE3 : FitW ex3 := ⟨by decide, by decide, by decide, by decide, by decide, by decide, by decide, by decide⟩
theorem exFit : ∀ f ∈ exL, FitW f := by
  intro f hf
  simp only [exL, List.mem_cons, List.not_mem_nil, or_false] at hf
  rcases hf with rfl | rfl | rfl
  · exact fitE1
  · exact fitE2
  · exact fitE3
theorem exA1 : addL [] ex1 = ([ex1], 0) := by
  unfold addL
  rw [if_neg (by decide), show chkF ex1 = 0 by decide, if_neg (by decide), show placeI [] ex1.id = -1 by decide, if_neg (by decide), show canE [] ex1 = 0 by decide, if_neg (by decide)]
  rfl
theorem exA2 : addL [ex1] ex2 = ([ex1, ex2], 0) := by
  unfold addL
  rw [if_neg (by decide), show chkF ex2 = 0 by decide, if_neg (by decide), show placeI [ex1] ex2.id = -1 by decide, if_neg (by decide), show canE [ex1] ex2 = 0 by decide, if_neg (by decide)]
  rfl
theorem exA3 : addL [ex1, ex2] ex3 = ([ex1, ex2, ex3], 0) := by
  unfold addL
  rw [if_neg (by decide), show chkF ex3 = 0 by decide, if_neg (by decide), show placeI [ex1, ex2] ex3.id = -1 by decide, if_neg (by decide), show canE [ex1, ex2] ex3 = 0 by decide, if_neg (by decide)]
  rfl
theorem exTell : tellL [] exL = exL := by
  unfold exL
  rw [tellL_cons, exA1]
  show tellL [ex1] [ex2, ex3] = _
  rw [tellL_cons, exA2]
  show tellL [ex1, ex2] [ex3] = _
  rw [tellL_cons, exA3]
  rfl
theorem exCh (p : Fa → Bool) : chosen p exL 3 = (if p ex1 = true then [(1, ex1)] else []) ++ (if p ex2 = true then [(2, ex2)] else []) ++ (if p ex3 = true then [(3, ex3)] else []) := by
  rw [chosen_succ (L := exL) (k := 2) (f := ex3) _ rfl, chosen_succ (L := exL) (k := 1) (f := ex2) _ rfl, chosen_succ (L := exL) (k := 0) (f := ex1) _ rfl, chosen_zero]
  have t1 : takenB exL ((0 : Nat) + 1 : Int) = false := by decide
  have t2 : takenB exL ((1 : Nat) + 1 : Int) = false := by decide
  have t3 : takenB exL ((2 : Nat) + 1 : Int) = false := by decide
  simp only [t1, t2, t3]
  cases p ex1 <;> cases p ex2 <;> cases p ex3 <;> rfl
theorem exLs : lsOf exL 1 = ⟨[(1, ex1)], [(2, ex2), (3, ex3)], [], [], []⟩ := by
  unfold lsOf
  rw [show exL.length = 3 from rfl]
  simp only [exCh]
  rfl
def exX : Ls := ⟨[(1, ex1)], [(2, ex2), (3, ex3)], [], [], []⟩
theorem exIn {f : Fa} {d : Int} (h : f.to = 0) (k : f.fr ≤ d) : inB f d = true := by
  unfold inB
  rw [decide_eq_true k, h]
  rfl
theorem exOut {f : Fa} {d : Int} (k : d < f.fr) : inB f d = false := by
  unfold inB
  rw [decide_eq_false (by omega)]
  rfl
theorem exq1 {d : Int} (h : 19723 ≤ d) : plc [(1, ex1)] d 1 = 0 := by
  rw [plc_succ (x := (1, ex1)) rfl, exIn (f := ex1) rfl h]
  rfl
theorem exq2 {d : Int} (h : 19723 ≤ d) (k : d < 19814) : plc [(2, ex2), (3, ex3)] d 2 = 0 := by
  rw [plc_succ (x := (3, ex3)) rfl, plc_succ (x := (2, ex2)) rfl, exIn (f := ex2) rfl h, exOut (f := ex3) k]
  rfl
theorem exq3 {d : Int} (h : 19814 ≤ d) : plc [(2, ex2), (3, ex3)] d 2 = 1 := by
  rw [plc_succ (x := (3, ex3)) rfl, plc_succ (x := (2, ex2)) rfl, exIn (f := ex2) rfl (show (19723 : Int) ≤ d by omega), exIn (f := ex3) rfl h]
  rfl
theorem exKey1 {d : Int} (h : 19723 ≤ d) (k : d < 19814) : keyT (onX exX d) = (true, 6000000, 1000000, [480, 480, 480, 480, 480, 0, 0], ⟨#[102, 105, 114, 109, 58, 49]⟩) := by
  unfold onX q_ exX
  simp only [List.length_cons, List.length_nil, Nat.zero_add, exq1 h, exq2 h k]
  rfl
theorem exKey2 {d : Int} (h : 19814 ≤ d) : keyT (onX exX d) = (true, 7200000, 1000000, [480, 480, 480, 480, 480, 0, 0], ⟨#[102, 105, 114, 109, 58, 49]⟩) := by
  unfold onX q_ exX
  simp only [List.length_cons, List.length_nil, Nat.zero_add, exq1 (show (19723 : Int) ≤ d by omega), exq3 h]
  rfl
theorem two_runs {e : Int → Int → Bool} (he : Eqv e) {F M T : Int} (h1 : F < M) (h2 : M < T) (k1 : ∀ d, F ≤ d → d < M → e F d = true) (k2 : ∀ d, M ≤ d → d < T → e M d = true) (k3 : e F M = false) : runsOf e F T = [(F, M), (M, T)] := by
  refine Runs.one (runsOf_runs he (by omega)) ?_
  exact ⟨rfl, h1, k1, ⟨rfl, h2, k2, rfl, fun h => absurd rfl h⟩, fun _ => k3⟩
theorem exRuns : runsOf (eT exX) 19723 20089 = [(19723, 19814), (19814, 20089)] := by
  refine two_runs (eT_eqv exX) (by omega) (by omega) (fun d h1 h2 => ?_) (fun d h1 h2 => ?_) ?_
  · unfold eT; rw [exKey1 (by omega) (by omega), exKey1 h1 h2]; exact decide_eq_true rfl
  · unfold eT; rw [exKey2 (by omega), exKey2 h1]; exact decide_eq_true rfl
  · unfold eT; rw [exKey1 (by omega) (by omega), exKey2 (by omega)]; exact decide_eq_false (by intro h; injection h with _ h; injection h with h _; omega)
theorem exOf : ofL (lsOf exL 1) 19723 20089 = [(19723, 19814), (19814, 20089)] ∧ ofE 19723 20089 = 0 := by
  have h := of_in (X := exX) (F := 19723) (T := 20089) (by omega) (by omega)
  refine ⟨?_, h.2⟩
  have e : lsOf exL 1 = exX := exLs
  rw [e, h.1]
  exact exRuns
theorem exEmpl : chosen (ofPK 1 1) exL exL.length = [(1, ex1)] := by
  show (lsOf exL 1).a = _
  rw [exLs]
theorem exFirst : firstS (emplX [(1, ex1)] (-25567) 84006) = (19723, true) := by decide
theorem exSl {W : World} {sb : Nat} (hk : Bk sb 61 #[.int .u32 0, .int .u32 1, .int .i64 1, .int .i64 19723, .int .i64 0, .string ⟨#[]⟩, .int .i64 1, .string ⟨#[]⟩, .int .u32 0, .int .u32 1, .int .i64 2, .int .i64 19723, .int .i64 0, .string ⟨#[]⟩, .int .i64 6000000, .string ⟨#[]⟩, .int .u32 0, .int .u32 1, .int .i64 2, .int .i64 19814, .int .i64 0, .string ⟨#[]⟩, .int .i64 7200000, .string ⟨#[]⟩] W) : SlF W (some ⟨sb, 0, none⟩) exL := fun _ => ⟨sb, 0, rfl, hk.lt, fun i f hf j u hu => by
  have hi : i < 3 := (List.getElem?_eq_some_iff.1 hf).1
  have hj : j < 8 := by have := (List.getElem?_eq_some_iff.1 hu).1; rwa [encF_len] at this
  have hi2 : i = 0 ∨ i = 1 ∨ i = 2 := by omega
  have hj2 : j = 0 ∨ j = 1 ∨ j = 2 ∨ j = 3 ∨ j = 4 ∨ j = 5 ∨ j = 6 ∨ j = 7 := by omega
  rcases hi2 with rfl | rfl | rfl <;> cases hf <;> rcases hj2 with rfl | rfl | rfl | rfl | rfl | rfl | rfl | rfl <;> cases hu <;> exact hk.cell _⟩
theorem exCosts : chkF (costFa ⟨#[97, 58, 54, 48, 32, 98, 58, 52, 48]⟩) = 0 ∧ costsL (ls ⟨#[97, 58, 54, 48, 32, 98, 58, 52, 48]⟩) = [(⟨#[97]⟩, 60), (⟨#[98]⟩, 40)] := by
  constructor
  · decide
  · kernel_rfl
theorem tabBel {a b : World} (h : Tab a) (k : Below a.heap.size a b) : Tab b := ⟨Nat.lt_of_lt_of_le h.1 k.size, fun i hi => bCell k (h.2 i hi)⟩
set_option maxHeartbeats 8000000 in
set_option maxRecDepth 100000 in
theorem la_awake16 (w : World) (hT : Tb w) (hC : Tab w) : Calls Tryz.prog 16 #[] w fun e w' => e = .returned (.bool true) ∧ Below w.heap.size w w' := by
  have hb1 : Below w.heap.size w (w.alloc (.cells #[.int .u32 0, .int .u32 1, .int .i64 1, .int .i64 19723, .int .i64 0, .string ⟨#[]⟩, .int .i64 1, .string ⟨#[]⟩, .int .u32 0, .int .u32 1, .int .i64 2, .int .i64 19723, .int .i64 0, .string ⟨#[]⟩, .int .i64 6000000, .string ⟨#[]⟩, .int .u32 0, .int .u32 1, .int .i64 2, .int .i64 19814, .int .i64 0, .string ⟨#[]⟩, .int .i64 7200000, .string ⟨#[]⟩] 61)) := bAlloc _ _
  have HTD : Hid (Calls Tryz.prog 17 #[.slice (some ⟨w.heap.size, 0, none⟩) 3 3] (w.alloc (.cells #[.int .u32 0, .int .u32 1, .int .i64 1, .int .i64 19723, .int .i64 0, .string ⟨#[]⟩, .int .i64 1, .string ⟨#[]⟩, .int .u32 0, .int .u32 1, .int .i64 2, .int .i64 19723, .int .i64 0, .string ⟨#[]⟩, .int .i64 6000000, .string ⟨#[]⟩, .int .u32 0, .int .u32 1, .int .i64 2, .int .i64 19814, .int .i64 0, .string ⟨#[]⟩, .int .i64 7200000, .string ⟨#[]⟩] 61)) fun e w' => (∃ A2, e = .returned (.agg #[.slice A2 3 3]) ∧ SlF w' A2 exL) ∧ Below w.heap.size w w') := Lib.hid (by
    have h := la_told16 exL (some ⟨w.heap.size, 0, none⟩) 3 (w.alloc (.cells #[.int .u32 0, .int .u32 1, .int .i64 1, .int .i64 19723, .int .i64 0, .string ⟨#[]⟩, .int .i64 1, .string ⟨#[]⟩, .int .u32 0, .int .u32 1, .int .i64 2, .int .i64 19723, .int .i64 0, .string ⟨#[]⟩, .int .i64 6000000, .string ⟨#[]⟩, .int .u32 0, .int .u32 1, .int .i64 2, .int .i64 19814, .int .i64 0, .string ⟨#[]⟩, .int .i64 7200000, .string ⟨#[]⟩] 61)) (by decide) exFit (exSl (Bk.new w 61 #[.int .u32 0, .int .u32 1, .int .i64 1, .int .i64 19723, .int .i64 0, .string ⟨#[]⟩, .int .i64 1, .string ⟨#[]⟩, .int .u32 0, .int .u32 1, .int .i64 2, .int .i64 19723, .int .i64 0, .string ⟨#[]⟩, .int .i64 6000000, .string ⟨#[]⟩, .int .u32 0, .int .u32 1, .int .i64 2, .int .i64 19814, .int .i64 0, .string ⟨#[]⟩, .int .i64 7200000, .string ⟨#[]⟩])) (hT.below hb1)
    rw [exTell] at h
    exact h.mono fun e w' ⟨⟨A2, h1, h2⟩, h3⟩ => ⟨⟨A2, h1, h2⟩, bTrans hb1 h3⟩)
  have HT := Lib.hid hT
  have HC := Lib.hid hC
  clear hb1 hT hC
  go_enter Tryz.func16, Tryz.ntmps16
  go_wp2_with fail
  refine HTD.out.mono ?_
  rintro e w3 ⟨⟨A2, rfl, hs3⟩, hb3⟩
  obtain ⟨vb, hvb⟩ : ∃ z, w3.heap.size = z := ⟨_, rfl⟩
  obtain ⟨w4, hw4⟩ : ∃ z, w3.alloc (.cells #[.slice A2 3 3] 27) = z := ⟨_, rfl⟩
  have hb4 : Below w3.heap.size w3 w4 := by rw [← hw4]; exact bAlloc _ _
  have hk4 : Bk vb 27 #[.slice A2 3 3] w4 := by rw [← hw4, ← hvb]; exact Bk.new _ _ _
  have HB4 : Hid (Below w.heap.size w w4) := Lib.hid (bTrans hb3 hb4)
  have HS4 : Hid (SlF w4 A2 exL) := Lib.hid (hs3.below hb4)
  have HK4 := Lib.hid hk4
  have HE := Lib.hid (And.intro hvb hw4)
  have htx : ∀ f ∈ exL, f.tx.size ≤ 1000000 := fun f hf => by
    simp only [exL, List.mem_cons, List.not_mem_nil, or_false] at hf
    rcases hf with rfl | rfl | rfl <;> decide
  have HOF : Hid (Calls Tryz.prog 19 #[.agg #[.slice A2 3 3], .int .u32 1, .agg #[.int .i64 19723, .int .i64 20089]] w4 fun e w' => ∃ g c, e = .returned (.tuple #[.slice (some ⟨g, 0, none⟩) 2 c, .int .i64 0]) ∧ w'.cell? ⟨g, 13 + 3, none⟩ = some (.int .i64 7200000) ∧ Below w4.heap.size w4 w') := Lib.hid (by
    have h := tm_Of exL A2 3 1 19723 20089 w4 (by decide) HS4.out htx (by decide) (by decide) (tabBel HC.out HB4.out)
    rw [exOf.1, exOf.2] at h
    refine h.mono fun e w' ⟨⟨A, c, h1, h2⟩, h3⟩ => ?_
    obtain ⟨g, cap, e2, _, hr⟩ := Own.row (encO_len (lsOf exL 1)) h2 (by simp)
    injection e2 with e2 _ e3
    subst e2
    refine ⟨g, c, h1, ?_, h3⟩
    have h4 := hr.cell (i := 1) (j := 3) (x := (19814, 20089)) (u := .int .i64 7200000) rfl (by
      unfold encO tdC
      have e : lsOf exL 1 = exX := exLs
      have k := exKey2 (d := 19814) (by omega)
      unfold keyT at k
      injection k with _ k
      injection k with k _
      rw [e]
      simp only [k]
      rfl)
    exact h4)
  have HFI : Hid (∀ W, Below w4.heap.size w4 W → Calls Tryz.prog 29 #[.agg #[.slice A2 3 3], .int .u32 1] W fun e w' => e = .returned (.tuple #[.int .i64 19723, .bool true]) ∧ Below W.heap.size W w') := Lib.hid fun W hW => by
    have h := tm_First exL A2 3 1 W (by decide) (HS4.out.below hW) (tabBel HC.out (bTrans HB4.out hW))
    rw [exEmpl, exFirst] at h
    exact h
  have HCO : Hid (∀ W, Below w4.heap.size w4 W → Calls Tryz.prog 24 #[.string ⟨#[97, 58, 54, 48, 32, 98, 58, 52, 48]⟩] W fun e w' => ∃ g c, e = .returned (.tuple #[.slice (some ⟨g, 0, none⟩) 2 c, .int .i64 0]) ∧ w'.cell? ⟨g, 2, none⟩ = some (.string ⟨#[98]⟩) ∧ w'.cell? ⟨g, 2 + 1, none⟩ = some (.int .i64 40) ∧ Below W.heap.size W w') := Lib.hid fun W hW => by
    have h := tm_Costs ⟨#[97, 58, 54, 48, 32, 98, 58, 52, 48]⟩ W (by decide) (HT.out.below (bTrans HB4.out hW))
    refine h.mono fun e w' ⟨hh, h3⟩ => ?_
    rw [if_pos exCosts.1, exCosts.2] at hh
    obtain ⟨A, c, h1, h2⟩ := hh
    obtain ⟨g, cap, e2, _, hr⟩ := Own.row encWt_len h2 (by simp)
    injection e2 with e2 _ e3
    subst e2
    exact ⟨g, c, h1, hr.cell (i := 1) (j := 0) (x := (⟨#[98]⟩, 40)) rfl rfl, hr.cell (i := 1) (j := 1) (x := (⟨#[98]⟩, 40)) rfl rfl, h3⟩
  clear hvb hw4 hb4 hk4 hs3 hb3 HTD htx
  go_upto_region 2 with fail
  rw [HE.out.1, HE.out.2]
  clear HE
  have C0 : w4.cell? ⟨vb, 0, none⟩ = some (.slice A2 3 3) := HK4.out.cell 0
  go_wp2_with fail
  refine HOF.out.mono ?_
  rintro e w5 ⟨g5, c5, rfl, hc5, hb5⟩
  have HB5 := Lib.hid hb5
  have HC5 := Lib.hid hc5
  have C1 : w5.cell? ⟨vb, 0, none⟩ = some (.slice A2 3 3) := bCell hb5 C0
  clear hb5 hc5 C0 HOF
  go_wp2_with fail
  refine (HFI.out w5 HB5.out).mono ?_
  rintro e w6 ⟨rfl, hb6⟩
  have HB6 : Hid (Below w4.heap.size w4 w6) := Lib.hid (bTrans HB5.out hb6)
  have HC6 : Hid (w6.cell? ⟨g5, 13 + 3, none⟩ = some (.int .i64 7200000)) := Lib.hid (bCell hb6 HC5.out)
  clear hb6 HFI C1
  go_wp2_with fail
  refine (HCO.out w6 HB6.out).mono ?_
  rintro e w7 ⟨g7, c7, rfl, hd1, hd2, hb7⟩
  have HB7 : Hid (Below w.heap.size w w7) := Lib.hid (bTrans HB4.out (bTrans HB6.out hb7))
  have E1 : w7.cell? ⟨g5, 16, none⟩ = some (.int .i64 7200000) := bCell hb7 HC6.out
  have E2 : w7.cell? ⟨g7, 2, none⟩ = some (.string ⟨#[98]⟩) := hd1
  have E3 : w7.cell? ⟨g7, 3, none⟩ = some (.int .i64 40) := hd2
  clear hd1 hd2 hb7 HCO
  go_wp2
  go_ret
  exact ⟨rfl, HB7.out⟩
end Go.Proofs.YtlgoaohklggcdaaGreatDoor
