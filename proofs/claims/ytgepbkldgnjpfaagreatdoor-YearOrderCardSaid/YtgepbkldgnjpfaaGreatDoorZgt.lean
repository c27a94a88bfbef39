/- Out of: Yj2 Yj3. -/
import Derived.Test.YtgepbkldgnjpfaaGreatDoorZgs
/- year: slip: the walk. -/
namespace Go.Proofs.YtgepbkldgnjpfaaGreatDoor
open Go.RowKit Go.Sort Go.BigFrame Go.Maps

theorem encLi_one (x : Li) : ∀ u ∈ encLi x, u.oneCell' = true := by
  intro u hu
  simp only [encLi, List.mem_cons, List.not_mem_nil, or_false] at hu
  rcases hu with rfl | rfl | rfl <;> rfl
theorem liInfo : (Tryz.prog.info? 44).map (fun i => (i.zero, i.size, i.bytes)) = some (some (.agg #[.int .i64 0, .string ByteArray.empty, .int .i64 0]), 3, 32) := by kernel_rfl
theorem newsLi (x : Li) (w : World) : ∀ j u, (encLi x)[j]? = some u → (w.alloc (.cells #[.int .i64 x.1, .string x.2.1, .int .i64 x.2.2] 44)).cell? ⟨w.heap.size, j, none⟩ = some u := by
  intro j u hu
  have h := Bk.new w 44 #[.int .i64 x.1, .string x.2.1, .int .i64 x.2.2]
  rw [h.cell]
  simpa [encLi] using hu
theorem own_low {α : Type} {enc : α → List Value} {k : Nat} {e : TypeId} {B B' : Nat} {w : World} {v : Value} {l : List α} (h : Own enc k e B v l w) (hB : B' ≤ B) : Own enc k e B' v l w := by
  rcases h with ⟨h0, h⟩
  refine ⟨h0, ?_⟩
  rcases h with h | ⟨g, cap, cur, h1, h2, h3⟩
  · exact .inl h
  · exact .inr ⟨g, cap, cur, h1, Nat.le_trans hB h2, h3⟩
/-- Lines, with the proof that their codes are short. -/
def elOf : (l : List Li) → (∀ x ∈ l, x.2.1.size ≤ 32) → List El
  | [], _ => []
  | x :: r, h => ⟨x, h x List.mem_cons_self⟩ :: elOf r fun y hy => h y (List.mem_cons_of_mem _ hy)
theorem elOf_row : ∀ (l : List Li) (h : ∀ x ∈ l, x.2.1.size ≤ 32), rowOf encEl (elOf l h) = rowOf encLi l ∧ (elOf l h).length = l.length ∧ (elOf l h).map Subtype.val = l
  | [], _ => ⟨rfl, rfl, rfl⟩
  | x :: r, h => by
    obtain ⟨h1, h2, h3⟩ := elOf_row r fun y hy => h y (List.mem_cons_of_mem _ hy)
    refine ⟨?_, by simp [elOf, h2], by simp [elOf, h3]⟩
    show encEl _ ++ rowOf encEl (elOf r _) = encLi x ++ rowOf encLi r
    rw [h1]; rfl
theorem row_val (m : List El) : rowOf encEl m = rowOf encLi (m.map Subtype.val) := by
  induction m with
  | nil => rfl
  | cons x r ih =>
    show encEl x ++ rowOf encEl r = encLi x.1 ++ rowOf encLi (r.map Subtype.val)
    rw [ih]; rfl
theorem sl_Sort {B : Nat} {v : Value} {l : List Li} {w : World} (h : Own encLi 3 44 B v l w) (hl : l.length ≤ 1000000) (hc : ∀ x ∈ l, x.2.1.size ≤ 32) :
    Calls Tryz.prog 63 #[v, .func (.func 64) #[] #[]] w fun e w' => e = .returned (.tuple #[]) ∧ ∃ m : List Li, (m.Perm l ∧ m.Pairwise fun x y => keyL x ≤ keyL y) ∧ Own encLi 3 44 B v m w' ∧ w.grownBy w' v.ownBlock := by
  obtain ⟨h1, h2, h3⟩ := elOf_row l hc
  have h' : Own encEl 3 44 B v (elOf l hc) w := by
    unfold Own at h ⊢
    rw [h1, h2]; exact h
  refine (sl_SortE h' (by rw [h2]; exact hl)).mono ?_
  rintro e w' ⟨he, m, ⟨hp, hs⟩, ho, hg⟩
  refine ⟨he, m.map Subtype.val, ⟨?_, ?_⟩, ?_, hg⟩
  · have := hp.map Subtype.val
    rwa [h3] at this
  · exact List.pairwise_map.2 hs
  · unfold Own at ho ⊢
    rw [← row_val, List.length_map]; exact ho
/-- The step of a range; the keys need be known only where they lie in the map. -/
theorem wpList_nextW {κ β : Type} [DecidableEq κ] {kl : κ → Lit} {enc : β → Value} {m0 : Ass κ β} (w : World) {ops : Array Oper} {rest : List Oper} {o : Oper} {a : Act} {Q : Exit → Act → World → Prop} (hg : o.guard = none) (it : Operand) (hop : o.op = Op.next it false) (K : TypeId) (KK : Keyed Tryz.prog K) (W : KeyW kl) (mk : κ → Value) (hmk : ∀ k, keyOf Tryz.prog K (mk k) = some (kl k))
    (b r n : Nat) (left : Lit → Bool) (cnt : Nat) (hit : a.eval it = .pointer (some ⟨r, 0, none⟩)) (h : w.ranges Tryz.prog K heldV b r n (dA kl enc m0) left cnt)
    (hDone : (∀ l, left l = false) → cnt = 0 → wpList Tryz.prog ops Q rest (a.put o.dst (.tuple #[.bool false])) w)
    (hMore : ∀ (k : κ) (x : β) (w' : World) (cnt' : Nat), getA m0 k = some x → left (kl k) = true → w'.ranges Tryz.prog K heldV b r n (dA kl enc m0) (fun z => left z && !z.sameKey (kl k)) cnt' → cnt' < cnt → w.grownBy w' (some r) → (Instr.entry (.pointer (some ⟨r, 0, none⟩))).run Tryz.prog w' = .ok (.tuple #[mk k, enc x]) w' → wpList Tryz.prog ops Q rest (a.put o.dst (.tuple #[.bool true, mk k, enc x])) w') :
    wpList Tryz.prog ops Q (o :: rest) a w := by
  refine wpList_next_ranges w hg it hop K KK heldV id id (fun key _ _ => ⟨key, rfl⟩) (fun v _ _ => ⟨v, rfl⟩) b r n _ left cnt hit h (fun h1 h2 => hDone h2 h1) ?_
  intro x c l y w1 cnt1 hkey hlx hv hat hrg hlt hgr hsz hen
  obtain rfl : (DataW.held c, []) = y := Option.some.inj hv
  have hex : ∃ p ∈ m0, kl p.1 = l := by
    refine Classical.byContradiction fun hn => ?_
    have h0 := dA_none (enc := enc) l m0 fun p hp e => hn ⟨p, hp, e⟩
    have h1 := has_true_of_atKey (D := dA kl enc m0) hat
    rw [h0] at h1
    cases h1
  obtain ⟨p, hp, rfl⟩ := hex
  obtain ⟨s, hs, rfl⟩ := dA_hat W hat
  have hxe : x = mk p.1 := KK.inj hkey (hmk p.1)
  subst hxe
  exact hMore p.1 s w1 cnt1 hs hlx hrg hlt hgr hen
theorem grownSet (w : World) (b o : Nat) (v : Value) : w.grownBy (w.setCell ⟨b, o, none⟩ v) (some b) := ⟨rfl, rfl, rfl, by simp [World.setCell], fun i _ h => Below.heap_setCell _ _ _ _ (fun e => h (by rw [e]))⟩
theorem bk_set3 {rb : Nat} {t : TypeId} {x0 x1 x2 : Value} {w : World} (h : Bk rb t #[x0, x1, x2] w) (u0 u1 u2 : Value) : Bk rb t #[u0, u1, u2] (((w.setCell ⟨rb, 0, none⟩ u0).setCell ⟨rb, 1, none⟩ u1).setCell ⟨rb, 2, none⟩ u2) := ((h.set_ 0 u0).set_ 1 u1).set_ 2 u2
theorem below_set3 {rb B : Nat} {w w1 : World} (h : Below B w w1) (hb : B ≤ rb) (u0 u1 u2 : Value) : Below B w (((w1.setCell ⟨rb, 0, none⟩ u0).setCell ⟨rb, 1, none⟩ u1).setCell ⟨rb, 2, none⟩ u2) := ((h.setCell (p := ⟨rb, 0, none⟩) hb _).setCell (p := ⟨rb, 1, none⟩) hb _).setCell (p := ⟨rb, 2, none⟩) hb _
set_option maxHeartbeats 4000000 in
set_option maxRecDepth 100000 in
theorem yr_slip (x : Sg) (pb : Nat) (m : Ass Kp Int) (k : Nat) (w : World) (hb : BkS pb x w) (hm : OmP m k x.lb w) (hk : k ≤ 1000000) :
    Calls Tryz.prog 34 #[.pointer (some ⟨pb, 0, none⟩)] w fun e w' => ∃ v, e = .returned (.tuple #[.agg #[.int .i64 (if (slpR m).2 = 0 then x.M.y else 0), .int .i64 (if (slpR m).2 = 0 then x.M.i else 0), v], .int .i64 (slpR m).2]) ∧ Own encLi 3 44 w.heap.size v (slpR m).1 w' ∧ (slpR m).1.length ≤ k ∧ Below w.heap.size w w' := by
  obtain ⟨R, hR⟩ : ∃ R, slpR m = R := ⟨_, rfl⟩
  rw [hR]
  have HR := Lib.hid hR
  have HBK := Lib.hid hb
  have HOM := Lib.hid hm
  have HKM := Lib.hid hk
  obtain ⟨lb, hlb⟩ : ∃ b, x.lb = b := ⟨_, rfl⟩
  obtain ⟨yy, hyy⟩ : ∃ b, x.M.y = b := ⟨_, rfl⟩
  obtain ⟨ii, hii⟩ : ∃ b, x.M.i = b := ⟨_, rfl⟩
  rw [hlb] at HOM
  rw [hyy, hii]
  have HLT : Hid (pb < w.heap.size ∧ lb < w.heap.size) := Lib.hid ⟨Bk.lt hb, HOM.out.lt⟩
  have HCELL : Hid (∀ W, Below w.heap.size w W → W.cell? ⟨pb, 8, none⟩ = some (.int .i64 yy) ∧ W.cell? ⟨pb, 9, none⟩ = some (.int .i64 ii) ∧ W.cell? ⟨pb, 20, none⟩ = some (.map (some lb))) := Lib.hid fun W hW => by
    have h := hb.below hW
    refine ⟨?_, ?_, ?_⟩
    · rw [← hyy]; exact Bk.cell h 8
    · rw [← hii]; exact Bk.cell h 9
    · rw [← hlb]; exact Bk.cell h 20
  clear hR hb hm hk hlb hyy hii
  obtain ⟨sb, hsb⟩ : ∃ z, w.heap.size = z := ⟨_, rfl⟩
  obtain ⟨wa, hwa⟩ : ∃ z, w.alloc (.cells #[.int .i64 0, .int .i64 0, .slice none 0 0] 41) = z := ⟨_, rfl⟩
  have HSB : Hid (Bk sb 41 #[.int .i64 0, .int .i64 0, .slice none 0 0] wa) := Lib.hid (by rw [← hwa, ← hsb]; exact Bk.new _ _ _)
  have hba : Below w.heap.size w wa := by rw [← hwa]; exact bAlloc _ _
  have HBA := Lib.hid hba
  obtain ⟨D0, D1, D2⟩ := HCELL.out wa hba
  obtain ⟨wd, hwd⟩ : ∃ z, wa.drew = z := ⟨_, rfl⟩
  have hbd : Below wa.heap.size wa wd := by rw [← hwd]; exact bDrew _
  obtain ⟨E0, E1, E2⟩ := HCELL.out wd (bTrans hba hbd)
  have HBD := Lib.hid hbd
  have hpa : pb < wa.heap.size := Nat.lt_of_lt_of_le HLT.out.1 hba.size
  have hpd : pb < wd.heap.size := Nat.lt_of_lt_of_le hpa hbd.size
  have HWF := Lib.hid (And.intro hsb hwa)
  clear hba hbd hsb hwa
  go_enter Tryz.func34, Tryz.ntmps34
  go_upto_region 1 with fail
  rw [HWF.out.1, HWF.out.2]
  go_cut [4] from 5 (fun p wx => ∃ tb, p = .pointer (some ⟨tb, 0, none⟩) ∧ Hid (Bk tb 41 #[.int .i64 yy, .int .i64 ii, .slice none 0 0] wx ∧ wa.heap.size ≤ tb) ∧ Hid (Below wa.heap.size wa wx))
  case first =>
    go_wp2_with fail
    go_region
    all_goals
      go_wp2
      go_meet
      exact ⟨_, rfl, Lib.hid ⟨Bk.new _ _ _, HBD.out.size⟩, Lib.hid (bTrans HBD.out (bAlloc _ _))⟩
  case rest =>
  obtain ⟨tb, rfl, HTB, HBC⟩ := hcut
  have hbw : Below w.heap.size w wc := bTrans HBA.out HBC.out
  obtain ⟨_, _, M2⟩ := HCELL.out wc hbw
  have HOC : Hid (OmP m k lb wc) := Lib.hid (hmBel HOM.out hbw)
  have HSC : Hid (Bk sb 41 #[.int .i64 0, .int .i64 0, .slice none 0 0] wc) := Lib.hid (bkBel HSB.out HBC.out)
  obtain ⟨rb, hrb⟩ : ∃ z, wc.heap.size = z := ⟨_, rfl⟩
  have HNE : Hid (lb < sb ∧ sb < tb ∧ tb < rb ∧ w.heap.size = sb) := Lib.hid (by
    have h1 := HLT.out
    have h2 := HWF.out.1
    have h3 := HSB.out.lt
    have h4 := HTB.out.2
    have h5 := HTB.out.1.lt
    omega)
  have HBW := Lib.hid hbw
  clear hbw D0 D1 D2 E0 E1 E2 hpa hpd hwd HBC HBD HBA HOM HSB HWF HCELL
  go_wp2_with (at_range; refine wpList_rangeV _ rfl _ 93 rfl 123 28 keyedKey Tryz.underlying93 (.map (some lb)) k rfl (Or.inr ⟨lb, rfl, HOC.out⟩) ?_)
  intro w3 c0 hrg hc0 hg0
  have HRG0 : Hid (w3.ranges Tryz.prog 123 heldV lb rb k (dA klP aggC m) (has (dA klP aggC m)) c0) := Lib.hid (by
    rcases hrg with ⟨h, _⟩ | ⟨b, h, hr⟩
    · cases h
    · cases h; exact hr)
  have HC0 := Lib.hid hc0
  have HT3 : Hid (Bk tb 41 #[.int .i64 yy, .int .i64 ii, .slice none 0 0] w3) := Lib.hid (HTB.out.1.grownBy hg0 (by simp))
  have HS3 : Hid (Bk sb 41 #[.int .i64 0, .int .i64 0, .slice none 0 0] w3) := Lib.hid (HSC.out.grownBy hg0 (by simp))
  have HB3 : Hid (Below w.heap.size w w3) := Lib.hid (HBW.out.grown hg0 HBW.out.size (fun j hj => by cases hj))
  have hr3 : rb ≤ w3.heap.size := by rw [← hrb]; exact hg0.size
  clear hrg hc0 hg0 hrb M2 HOC HSC HTB HBW
  go_wp2
  go_loopg [3, 23] c0 (fun kk ev _ wr => ∃ (c : Nat) (left : Lit → Bool) (out : List Li) (lv : Value), ev = .int .i64 0 ∧ c = kk ∧ out.length + c ≤ k ∧ rb ≤ wr.heap.size ∧ Hid (wr.ranges Tryz.prog 123 heldV lb rb k (dA klP aggC m) left c) ∧ Hid (SlI m left out) ∧ Hid (Own encLi 3 44 (rb + 1) lv out wr) ∧ Hid (Bk tb 41 #[.int .i64 yy, .int .i64 ii, lv] wr) ∧ Hid (Bk sb 41 #[.int .i64 0, .int .i64 0, .slice none 0 0] wr) ∧ Hid (Below w.heap.size w wr))
  case atStart => exact ⟨c0, _, [], _, rfl, rfl, by have := HC0.out; simp; omega, hr3, HRG0, Lib.hid SlI.start, Lib.hid (Own.nil _), HT3, HS3, HB3⟩
  case round =>
    obtain ⟨c, left, out, lv, rfl, hck, hk, hrs, HRG, HSI, HOW, HTW, HSW, HBE⟩ := hrel
    clear HRG0 HT3 HS3 HB3 HC0 hr3
    go_wp2_with (first
      | (at_next; refine wpList_nextW _ rfl _ rfl 123 keyedKey klP_W keyV keyOfP lb rb k _ _ rfl HRG.out ?_ ?_)
      | go_in)
    · intro hl0 hc0
      have HL0 := Lib.hid hl0
      obtain ⟨A', cap', rfl, _⟩ := Own.val (enc := encLi) (k := 3) (fun _ => rfl) HOW.out
      obtain ⟨nl, hnl⟩ : ∃ z, out.length = z := ⟨_, rfl⟩
      have hk' := hk
      rw [hnl] at HOW HTW hk'
      have HNL := Lib.hid hnl
      have T0 : wr.cell? ⟨tb, 2, none⟩ = some (.slice A' nl cap') := HTW.out.cell 2
      have HSO := Lib.hid (sl_Sort HOW.out (by have := HKM.out; omega) (fun z hz => by obtain ⟨k1, v1, _, _, h3, _⟩ := HSI.out.fwd z hz; rw [h3]; exact lnP_sz k1 v1))
      clear hl0 hc0 HRG hk
      go_wp2_with fail
      refine HSO.out.mono ?_
      rintro e w5 ⟨rfl, s, ⟨hp, hs⟩, how5, hg5⟩
      have hR : R = (s, 0) := by rw [← HR.out]; exact HSI.out.done HL0.out hp hs
      have ht5 := HTW.out.grownBy hg5 (HOW.out.far (by have := HNE.out; omega))
      have hs5 := HSW.out.grownBy hg5 (HOW.out.far (by have := HNE.out; omega))
      have hb5 := HBE.out.grown hg5 HBE.out.size (fun j hj => by have := (HOW.out.lt hj).1; have := HNE.out; omega)
      subst hR
      have HLS : Hid (s.length ≤ k) := Lib.hid (by have := hp.length_eq; have := HNL.out; omega)
      obtain ⟨y, hy⟩ : ∃ y, ((w5.setCell ⟨sb, 0, none⟩ (.int .i64 yy)).setCell ⟨sb, 1, none⟩ (.int .i64 ii)).setCell ⟨sb, 2, none⟩ (.slice A' nl cap') = y := ⟨_, rfl⟩
      have hky : Bk sb 41 #[.int .i64 yy, .int .i64 ii, (.slice A' nl cap')] y := by rw [← hy]; exact bk_set3 hs5 _ _ _
      have HBY : Hid (Below w.heap.size w y) := Lib.hid (by rw [← hy]; exact below_set3 hb5 (by have := HNE.out; omega) _ _ _)
      have hfar : (Value.slice A' nl cap').ownBlock = none ∨ (Value.slice A' nl cap').ownBlock ≠ some sb := Or.inr (Ne.symm (HOW.out.far (by have := HNE.out; omega)))
      have HOY : Hid (Own encLi 3 44 w.heap.size (.slice A' nl cap') s y) := Lib.hid (own_low (B := rb + 1) (by rw [← hy]; exact ((how5.kept (grownSet _ _ _ _) hfar).kept (grownSet _ _ _ _) hfar).kept (grownSet _ _ _ _) hfar) (by have := HNE.out; omega))
      have r0 : y.cell? ⟨sb, 0, none⟩ = some (.int .i64 yy) := hky.cell 0
      have r1 : y.cell? ⟨sb, 1, none⟩ = some (.int .i64 ii) := hky.cell 1
      have r2 : y.cell? ⟨sb, 2, none⟩ = some (.slice A' nl cap') := hky.cell 2
      have t0 : w5.cell? ⟨tb, 0, none⟩ = some (.int .i64 yy) := ht5.cell 0
      have t1 : w5.cell? ⟨tb, 1, none⟩ = some (.int .i64 ii) := ht5.cell 1
      have t2 : w5.cell? ⟨tb, 2, none⟩ = some (.slice A' nl cap') := ht5.cell 2
      have q0 : w5.cell? ⟨sb, 0, none⟩ = some (.int .i64 0) := hs5.cell 0
      have q1 : w5.cell? ⟨sb, 1, none⟩ = some (.int .i64 0) := hs5.cell 1
      have q2 : w5.cell? ⟨sb, 2, none⟩ = some (.slice none 0 0) := hs5.cell 2
      have f0 : w5.frozen? ⟨sb, 0, none⟩ = false := hs5.frozen 0
      have f1 : w5.frozen? ⟨sb, 1, none⟩ = false := hs5.frozen 1
      have f2 : w5.frozen? ⟨sb, 2, none⟩ = false := hs5.frozen 2
      clear hky ht5 hs5 hb5 how5 hg5 hp hs T0 hfar hrs hck
      go_wp2
      exact bodyPost_ret (v := .tuple #[.agg #[.int .i64 yy, .int .i64 ii, (.slice A' nl cap')], .int .i64 0]) (by simp [results, Tryz.results34, go_sem, r0, r1, r2]) rfl ⟨_, by simp, HOY.out, HLS.out, HBY.out⟩
    · intro p co hpc vx w1 cnt1 hgx hlx hrg1 hlt hg1 hen
      obtain ⟨kx, hkx⟩ : ∃ z : Kp, ⟨(p, co), hpc⟩ = z := ⟨_, rfl⟩
      have HLP : Hid (∀ v, lnP kx v = (p, co, v)) := Lib.hid fun v => by rw [← hkx]; rfl
      simp only [keyV, aggC] at hen ⊢
      rw [hkx] at hgx hlx hrg1
      clear hkx hpc
      have HGX := Lib.hid hgx
      have HLX := Lib.hid hlx
      obtain ⟨fv, hfv⟩ : ∃ y, fitB vx = y := ⟨_, rfl⟩
      have HFV := Lib.hid hfv
      have HF : Hid (∀ W, Calls Tryz.prog 22 #[.int .i64 vx] W fun e w' => e = .returned (.bool fv) ∧ W = w') := Lib.hid fun W => by rw [← hfv]; exact ce_fit vx W
      have hne := HNE.out
      have htw1 := HTW.out.grownBy hg1 (by intro e; injection e with e; omega)
      have hsw1 := HSW.out.grownBy hg1 (by intro e; injection e with e; omega)
      have how1 := HOW.out.kept hg1 (Or.inr (Ne.symm (HOW.out.far (Nat.lt_succ_self rb))))
      have hbe1 := HBE.out.grown hg1 HBE.out.size (fun j hj => by cases hj; omega)
      obtain ⟨fb, hfb⟩ : ∃ y, w1.heap.size = y := ⟨_, rfl⟩
      obtain ⟨wk, hwk⟩ : ∃ y, w1.alloc (.cells #[.int .i64 p, .string co] 123) = y := ⟨_, rfl⟩
      have hbk : Below w1.heap.size w1 wk := by rw [← hwk]; exact bAlloc _ _
      have HFB : Hid (Bk fb 123 #[.int .i64 p, .string co] wk) := Lib.hid (by rw [← hwk, ← hfb]; exact Bk.new _ _ _)
      have HTK := Lib.hid (bkBel htw1 hbk)
      have HSK := Lib.hid (bkBel hsw1 hbk)
      have HOK := Lib.hid (how1.none_ ⟨hbk.os, hbk.tape, hbk.output, hbk.size, fun i hi _ => hbk.block i hi⟩)
      have HBK2 := Lib.hid (bTrans hbe1 hbk)
      have HRK : Hid (wk.ranges Tryz.prog 123 heldV lb rb k (dA klP aggC m) (fun z => left z && !z.sameKey (klP kx)) cnt1) := Lib.hid (hrg1.kept (row := none) ⟨hbk.os, hbk.tape, hbk.output, hbk.size, fun i hi _ => hbk.block i hi⟩ (by simp) (by simp))
      have hrk : rb ≤ w1.heap.size := Nat.le_trans hrs hg1.size
      have HRS : Hid (rb + 1 ≤ wk.heap.size) := Lib.hid (by have := HFB.out.lt; omega)
      have HWF2 := Lib.hid (And.intro hfb hwk)
      have HHK := Lib.hid (And.intro hk (And.intro hlt hck))
      clear htw1 hsw1 how1 hbe1 hbk hrg1 hg1 hgx hlx hfv hfb hwk hne hrs hrk HRG HOW HTW HSW HBE hk hck
      go_upto_region 5 with fail
      rw [HWF2.out.1, HWF2.out.2]
      go_wp2_with fail
      refine (HF.out _).mono ?_
      rintro e w5 ⟨rfl, rfl⟩
      cases fv with
      | false =>
        have hR : R = ([], 9) := by
          rw [← HR.out]
          unfold slpR
          rw [if_pos]
          cases hq : slpOk m
          · rfl
          · have := slpOk_iff.1 hq kx vx HGX.out
            rw [HFV.out] at this
            cases this
        subst hR
        obtain ⟨y, hy⟩ : ∃ y, ((wk.setCell ⟨sb, 0, none⟩ (.int .i64 0)).setCell ⟨sb, 1, none⟩ (.int .i64 0)).setCell ⟨sb, 2, none⟩ (.slice none 0 0) = y := ⟨_, rfl⟩
        have hky : Bk sb 41 #[.int .i64 0, .int .i64 0, .slice none 0 0] y := by rw [← hy]; exact bk_set3 HSK.out _ _ _
        have HBY : Hid (Below w.heap.size w y) := Lib.hid (by rw [← hy]; exact below_set3 HBK2.out (by have := HNE.out; omega) _ _ _)
        have r0 : y.cell? ⟨sb, 0, none⟩ = some (.int .i64 0) := hky.cell 0
        have r1 : y.cell? ⟨sb, 1, none⟩ = some (.int .i64 0) := hky.cell 1
        have r2 : y.cell? ⟨sb, 2, none⟩ = some (.slice none 0 0) := hky.cell 2
        have q0 : wk.cell? ⟨sb, 0, none⟩ = some (.int .i64 0) := HSK.out.cell 0
        have q1 : wk.cell? ⟨sb, 1, none⟩ = some (.int .i64 0) := HSK.out.cell 1
        have q2 : wk.cell? ⟨sb, 2, none⟩ = some (.slice none 0 0) := HSK.out.cell 2
        have f0 : wk.frozen? ⟨sb, 0, none⟩ = false := HSK.out.frozen 0
        have f1 : wk.frozen? ⟨sb, 1, none⟩ = false := HSK.out.frozen 1
        have f2 : wk.frozen? ⟨sb, 2, none⟩ = false := HSK.out.frozen 2
        clear hky hlt hen
        go_wp2
        exact bodyPost_ret (v := .tuple #[.agg #[.int .i64 0, .int .i64 0, .slice none 0 0], .int .i64 9]) (by simp [results, Tryz.results34, go_sem, r0, r1, r2]) rfl ⟨_, by simp, Own.nil _, HBY.out⟩
      | true =>
      have HNX := Lib.hid (HSI.out.next HGX.out HLX.out HFV.out)
      clear hlt hen
      by_cases hv : vx = 0
      · have dv : (vx != 0) = false := by rw [hv]; rfl
        have HN2 : Hid (SlI m (fun z => left z && !z.sameKey (klP kx)) out) := Lib.hid (by have := HNX.out; rw [if_neg (by simpa using hv)] at this; exact this)
        clear hv HNX
        go_wp2
        go_roundg cnt1
        case measure => have := HHK.out; omega
        case rel => exact ⟨cnt1, _, out, lv, rfl, rfl, by have := HHK.out; omega, by have := HRS.out; omega, HRK, HN2, HOK, HTK, HSK, HBK2⟩
      · have dv : (vx != 0) = true := by simpa using hv
        have HN2 : Hid (SlI m (fun z => left z && !z.sameKey (klP kx)) (out ++ [(p, co, vx)])) := Lib.hid (by have := HNX.out; rw [if_pos hv, HLP.out] at this; exact this)
        have hle : out.length + 1 ≤ 1000000000 := by have := HHK.out; have := HKM.out; omega
        have T0 : wk.cell? ⟨tb, 2, none⟩ = some lv := HTK.out.cell 2
        have K0 : wk.cell? ⟨fb, 0, none⟩ = some (.int .i64 p) := HFB.out.cell 0
        have K1 : wk.cell? ⟨fb, 1, none⟩ = some (.string co) := HFB.out.cell 1
        clear hv HNX
        go_wp2_with ((at_builtin; refine wpList_append_row encLi_len encLi_one rfl _ _ 39 rfl (rb + 1) 44 _ 32 Tryz.underlying39 liInfo rfl (by decide) _ out (p, co, vx) rfl (HOK.out.alloc _) wk.heap.size 1 rfl (newsLi (p, co, vx) wk) hle (by decide) (Nat.le_trans HRS.out (Grows.of_alloc wk _).size) ?_))
        intro v9 w9 hown9 hgr9
        obtain ⟨A9, cap9, rfl, _⟩ := Own.val (enc := encLi) (k := 3) (fun _ => rfl) hown9
        obtain ⟨n9, hn9⟩ : ∃ z, (out ++ [(p, co, vx)]).length = z := ⟨_, rfl⟩
        rw [hn9] at hown9 ⊢
        have hne := HNE.out
        have hbl : Below wk.heap.size wk (wk.alloc (.cells #[.int .i64 p, .string co, .int .i64 vx] 44)) := bAlloc _ _
        have ht9 := (bkBel HTK.out hbl).grownBy hgr9 (HOK.out.far (by omega))
        have hs9 := (bkBel HSK.out hbl).grownBy hgr9 (HOK.out.far (by omega))
        have hb9 := (bTrans HBK2.out hbl).grown hgr9 (bTrans HBK2.out hbl).size (fun j hj => by have := (HOK.out.lt hj).1; omega)
        have hr9 : w9.ranges Tryz.prog 123 heldV lb rb k (dA klP aggC m) (fun z => left z && !z.sameKey (klP kx)) cnt1 := (HRK.out.kept (row := none) ⟨hbl.os, hbl.tape, hbl.output, hbl.size, fun i hi _ => hbl.block i hi⟩ (by simp) (by simp)).kept hgr9 (HOK.out.far (by omega)) (HOK.out.far (by omega))
        have hst : w.heap.size ≤ tb := by omega
        have hz9 : rb ≤ w9.heap.size := by have := HRS.out; have := hbl.size; have := hgr9.size; omega
        obtain ⟨wy, hwy⟩ : ∃ y, w9.setCell ⟨tb, 2, none⟩ (.slice A9 n9 cap9) = y := ⟨_, rfl⟩
        have HTY : Hid (Bk tb 41 #[.int .i64 yy, .int .i64 ii, .slice A9 n9 cap9] wy) := Lib.hid (by rw [← hwy]; exact ht9.set_ 2 _)
        have HSY : Hid (Bk sb 41 #[.int .i64 0, .int .i64 0, .slice none 0 0] wy) := Lib.hid (by rw [← hwy]; exact bkSetO hs9 (by omega) _ _)
        have HBY : Hid (Below w.heap.size w wy) := Lib.hid (by rw [← hwy]; exact hb9.setCell (p := ⟨tb, 2, none⟩) hst _)
        have HRY : Hid (wy.ranges Tryz.prog 123 heldV lb rb k (dA klP aggC m) (fun z => left z && !z.sameKey (klP kx)) cnt1) := Lib.hid (by rw [← hwy]; exact hr9.kept (grownSet _ _ _ _) (by intro e; injection e with e; omega) (by intro e; injection e with e; omega))
        have HOY : Hid (Own encLi 3 44 (rb + 1) (.slice A9 n9 cap9) (out ++ [(p, co, vx)]) wy) := Lib.hid (by rw [← hwy]; exact hown9.kept (grownSet _ _ _ _) (Or.inr (Ne.symm (hown9.far (by omega)))))
        have hzy : rb ≤ wy.heap.size := by rw [← hwy]; exact Nat.le_trans hz9 (grownSet _ _ _ _).size
        have HZY := Lib.hid hzy
        have t2 : w9.cell? ⟨tb, 2, none⟩ = some lv := ht9.cell 2
        have t3 : w9.frozen? ⟨tb, 2, none⟩ = false := ht9.frozen 2
        have HLN : Hid (n9 = out.length + 1) := Lib.hid (by rw [← hn9]; simp)
        clear hown9 hgr9 hn9 hne hst hbl ht9 hs9 hb9 hr9 hz9 hzy T0 K0 K1
        go_wp2
        go_roundg cnt1
        case measure => have := HHK.out; omega
        case rel => exact ⟨cnt1, _, out ++ [(p, co, vx)], _, rfl, rfl, by have := HHK.out; rw [List.length_append]; simp; omega, HZY.out, HRY, HN2, HOY, HTY, HSY, HBY⟩
end Go.Proofs.YtgepbkldgnjpfaaGreatDoor

/- year: parts(): the six closures. -/
namespace Go.Proofs.YtgepbkldgnjpfaaGreatDoor
open Go.RowKit Go.Sort Go.BigFrame

def prtV (xb : Nat) (i : Nat) : Value := .func (.func i) #[] #[.pointer (some ⟨xb, 0, none⟩)]
def prtsV (xb : Nat) : Array Value := #[prtV xb 56, prtV xb 58, prtV xb 59, prtV xb 60, prtV xb 61, prtV xb 62]
set_option maxHeartbeats 4000000 in
set_option maxRecDepth 100000 in
theorem yr_parts (pb : Nat) (w : World) :
    Calls Tryz.prog 33 #[.pointer (some ⟨pb, 0, none⟩)] w fun e w' => ∃ xb rb, e = .returned (.slice (some ⟨rb, 0, none⟩) 6 6) ∧ BkX xb pb w' ∧ w.heap.size ≤ xb ∧ w.heap.size ≤ rb ∧ Bk rb 98 (prtsV xb) w' ∧ Below w.heap.size w w' := by
  go_enter Tryz.func33, Tryz.ntmps33
  go_wp2
  go_ret
  refine ⟨w.heap.size, w.heap.size + 1, rfl, (Bk.new _ _ _).grows (Grows.of_alloc _ _), Nat.le_refl _, Nat.le_succ _, ?_, ((Grows.of_alloc _ _).alloc _).below⟩
  have := Bk.new (w.alloc (.cells #[.pointer (some ⟨pb, 0, none⟩)] 92)) 98 (prtsV w.heap.size)
  rwa [show (w.alloc (.cells #[.pointer (some ⟨pb, 0, none⟩)] 92)).heap.size = w.heap.size + 1 by simp] at this
/-- The step's start. -/
def d0 (S : Ste) (M : Mon) : Sd := ⟨if S.y ≠ M.y then { S with y := M.y, i := M.i, o := M.o, be := [], so := [], tb := 0, tt := 0 } else { S with y := M.y, i := M.i, o := M.o }, [], 0, 0, 0⟩
def prts (M : Mon) : List (Sd → Sd × Int) := [pf1 M, pf2 M, pf3 M, pf4 M, pf5 M, pf6 M]
/-- The parts, one behind the other, while nothing is wrong. -/
def runs : List (Sd → Sd × Int) → Sd → Int → Sd × Int
  | [], d, e => (d, e)
  | f :: r, d, e => if e ≠ 0 then (d, e) else runs r (f d).1 (f d).2
/-- A step with a month: the state, the slip, what is wrong. -/
def stepM (S : Ste) (M : Mon) : Ste × (Int × Int × List Li) × Int :=
  let q := runs (prts M) (d0 S M) (chkM S M)
  if q.2 ≠ 0 then (S, (0, 0, []), q.2)
  else if (slpR q.1.ln).2 ≠ 0 then (S, (0, 0, []), (slpR q.1.ln).2)
  else if slpE M.y M.i (slpR q.1.ln).1 ≠ 0 then (S, (0, 0, []), slpE M.y M.i (slpR q.1.ln).1)
  else (q.1.S, (M.y, M.i, (slpR q.1.ln).1), 0)
/-- What a part's closure does. -/
def PartC (w0 : World) (xb pb lb : Nat) (M : Mon) (A : MoA) (fid : Nat) (f : Sd → Sd × Int) : Prop := ∀ (d : Sd) (V : StA) (n k : Nat) (w : World), SpW w0 pb lb M A d V n k w → BkX xb pb w → k ≤ 900000000 → n ≤ 1000000000 → Tb w → Calls Tryz.prog fid #[.pointer (some ⟨xb, 0, none⟩)] w fun e w' => e = .returned (.int .i64 (f d).2) ∧ Kep pb lb w w' ∧ ∃ V2, SpW w0 pb lb M A (f d).1 V2 (n + 64) (k + 128) w'
section
variable {w0 : World} {xb pb lb : Nat} {M : Mon} {A : MoA}
theorem partC1 (hM : MoOk M A w0) (hf : Few 64 M.gr) : PartC w0 xb pb lb M A 56 (pf1 M) := fun d V n k w h hx hk hn hT => (yr_p1 w0 xb pb lb M A d V n k w hM h hx (by omega) hf.1).mono fun e w' ⟨h1, h2, h3⟩ => ⟨h1, h2, V, h3.mono (by omega) (by have := hf.2; omega)⟩
theorem partC2 (hM : MoOk M A w0) : PartC w0 xb pb lb M A 58 (pf2 M) := fun d V n k w h hx hk hn hT => (yr_p2 w0 xb pb lb M A d V n k w hM h hx (by omega) hn hT).mono fun e w' ⟨h1, h2, V2, h3⟩ => ⟨h1, h2, V2, h3.mono (by omega) (by omega)⟩
theorem partC3 (hM : MoOk M A w0) : PartC w0 xb pb lb M A 59 (pf3 M) := fun d V n k w h hx hk hn hT => (yr_p3 w0 xb pb lb M A d V n k w hM h hx (by omega) hn).mono fun e w' ⟨h1, h2, V2, h3⟩ => ⟨h1, h2, V2, h3.mono (by omega) (by omega)⟩
theorem partC4 (hM : MoOk M A w0) : PartC w0 xb pb lb M A 60 (pf4 M) := fun d V n k w h hx hk hn hT => (yr_p4 w0 xb pb lb M A d V n k w hM h hx (by omega)).mono fun e w' ⟨h1, h2, h3⟩ => ⟨h1, h2, V, h3.mono (by omega) (by omega)⟩
theorem partC5 (hM : MoOk M A w0) (hf : Few 64 M.af) : PartC w0 xb pb lb M A 61 (pf5 M) := fun d V n k w h hx hk hn hT => (yr_p5 w0 xb pb lb M A d V n k w hM h hx (by omega) hf).mono fun e w' ⟨h1, h2, h3⟩ => ⟨h1, h2, V, h3.mono (by omega) (by omega)⟩
theorem partC6 (hM : MoOk M A w0) : PartC w0 xb pb lb M A 62 (pf6 M) := fun d V n k w h hx hk hn hT => (yr_p6 w0 xb pb lb M A d V n k w hM h hx (by omega) hn).mono fun e w' ⟨h1, h2, V2, h3⟩ => ⟨h1, h2, V2, h3.mono (by omega) (by omega)⟩
end
theorem itmGo_few {le : Int} : ∀ {l : List It}, itmGo le l = 0 → ∀ i ∈ l, i.1.size ≤ 32
  | [], _, i, hi => by cases hi
  | x :: r, h, i, hi => by
    unfold itmGo at h
    split at h
    · cases h
    rename_i h1
    split at h
    · cases h
    split at h
    · cases h
    rcases List.mem_cons.1 hi with rfl | hi
    · exact nmB_len h1
    · exact itmGo_few h i hi
theorem itmE_few {le : Int} {l : List It} (h : itmE le l = 0) : Few 64 l := by
  unfold itmE at h
  split at h
  · cases h
  · exact ⟨itmGo_few h, by omega⟩
theorem chkM_few {S : Ste} {M : Mon} (h : chkM S M = 0) : Few 64 M.gr ∧ Few 64 M.af := by
  unfold chkM at h
  split at h
  · cases h
  split at h
  · cases h
  split at h
  · rename_i h1; exact absurd h h1
  · rename_i h1
    exact ⟨itmE_few (by simpa using h1), itmE_few h⟩
end Go.Proofs.YtgepbkldgnjpfaaGreatDoor
