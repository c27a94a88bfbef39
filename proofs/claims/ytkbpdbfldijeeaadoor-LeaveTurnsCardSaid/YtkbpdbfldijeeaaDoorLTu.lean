/- The walk of LeaveTurns. -/
import Derived.Test.YtkbpdbfldijeeaaDoorTrn
import Derived.Test.YtkbpdbfldijeeaaDoorDe
import Derived.Test.YtkbpdbfldijeeaaDoorApp
import Derived.WalkSpells
namespace Go.Proofs.YtkbpdbfldijeeaaDoor
open Go.RowKit Go.Sort Go.BigFrame

/-- Two neighbours of a row change places. -/
theorem mvSwap {g cap k : Nat} {P Q : List Mv} {x y : Mv} {w : World} (h : Rw encM 3 42 g cap (P ++ ([x, y] ++ Q)) w) (hP : P.length = k) :
    w.grownBy ((w.setCells g (k * 3) (encM y)).setCells g ((k + 1) * 3) (encM x)) (some g) ∧ Rw encM 3 42 g cap (P ++ ([y, x] ++ Q)) ((w.setCells g (k * 3) (encM y)).setCells g ((k + 1) * 3) (encM x)) := by
  have h1 := Rw.set_ encM_len h (i := k) (by simp; omega) y
  have e1 : (P ++ ([x, y] ++ Q)).set k y = P ++ ([y, y] ++ Q) := set_mid P (y :: Q) x y hP
  rw [e1] at h1
  have h2 := Rw.set_ encM_len h1 (i := k + 1) (by simp; omega) x
  have e2 : (P ++ ([y, y] ++ Q)).set (k + 1) x = P ++ ([y, x] ++ Q) := by
    have := set_mid (P ++ [y]) Q y x (n := k + 1) (by rw [List.length_append, hP]; rfl)
    simpa using this
  rw [e2] at h2
  exact ⟨gTrans (grown_setCells _ _ _) (grown_setCells _ _ _), h2⟩
theorem mvFacts {g cap i p : Nat} {D : List Mv} {w : World} {d gr tk : Int} (h : Rw encM 3 42 g cap D w) (hx : D[i]? = some (d, gr, tk)) (hp : i * 3 = p) :
    (w.cell? ⟨g, p, none⟩ = some (.int .i64 d) ∧ w.cell? ⟨g, p + 1, none⟩ = some (.int .i64 gr) ∧ w.cell? ⟨g, p + 2, none⟩ = some (.int .i64 tk)) ∧ w.frozen? ⟨g, p, none⟩ = false ∧ w.frozen? ⟨g, p + 1, none⟩ = false ∧ w.frozen? ⟨g, p + 2, none⟩ = false :=
  ⟨⟨hp ▸ Rw.cell h hx (j := 0) rfl, hp ▸ Rw.cell h hx (j := 1) rfl, hp ▸ Rw.cell h hx (j := 2) rfl⟩, Rw.frozen h _, Rw.frozen h _, Rw.frozen h _⟩

set_option maxHeartbeats 4000000 in
set_option maxRecDepth 100000 in
theorem lw_Turns (yr ca ex at8 : Int) (l : List Mv) (A : Option Addr) (cap : Nat) (w : World) (hi : Ints 84005 l) (hgt : ∀ x ∈ l, i64 x.2.1 ∧ i64 x.2.2) (ha8 : 0 ≤ at8 ∧ at8 ≤ 255) (ht : Tabs w) (hs : Sl encM 3 w w.heap.size A l) :
    Calls Tryd.prog 6 #[.agg #[.int .i64 yr, .int .i64 ca, .int .i64 ex], .slice A l.length cap, .int .u8 at8] w fun e' w' => e' = .returned (.bool true) ∧ Below w.heap.size w w' := by
  have AW := Lib.hid (fun W (hT : Tabs W) => lv_awake W hT)
  obtain ⟨pb, hpb⟩ : ∃ x, w.heap.size = x := ⟨_, rfl⟩
  obtain ⟨w0, hw0⟩ : ∃ x, w.alloc (.cells #[.int .i64 yr, .int .i64 ca, .int .i64 ex] 23) = x := ⟨_, rfl⟩
  have g0 : Grows w w0 := hw0 ▸ .of_alloc _ _
  have s0 : pb < w0.heap.size := hw0 ▸ hpb ▸ size_new _ _
  have p0 : Bk pb 23 #[.int .i64 yr, .int .i64 ca, .int .i64 ex] w0 := hw0 ▸ hpb ▸ Bk.new w _ _
  have t0 := ht.grows g0
  have hs0 := (hs.grows g0 (Nat.le_refl _)).more g0.size
  have HW := Lib.hid hw0
  have HPB := Lib.hid hpb
  have FIN : Hid (∀ w2, Below w0.heap.size w0 w2 → Below w.heap.size w w2) := Lib.hid fun w2 h => bwTrans g0.below h g0.size
  have HP := Lib.hid p0
  have hlen := hi.len
  have HS := Lib.hid hs0
  have HI := Lib.hid hi
  have HGT := Lib.hid hgt
  clear hw0 hpb hs hs0 p0 hi hgt
  by_cases h1 : l.length < 2
  · go_enter Tryd.func6, Tryd.ntmps6
    go_wp2_with fail
    rw [HW.out]
    refine (AW.out _ t0).mono ?_
    rintro e' w2 ⟨rfl, hb⟩
    go_wp2
    go_ret
    exact ⟨rfl, FIN.out _ hb⟩
  by_cases h2 : 100 < l.length
  · go_enter Tryd.func6, Tryd.ntmps6
    go_wp2_with fail
    rw [HW.out]
    refine (AW.out _ t0).mono ?_
    rintro e' w2 ⟨rfl, hb⟩
    go_wp2
    go_ret
    exact ⟨rfl, FIN.out _ hb⟩
  obtain ⟨b, off, rfl, hB, hc⟩ := HS.out (by intro h; simp [h] at h1)
  obtain ⟨k, hk⟩ : ∃ k : Nat, at8 % ((l.length : Int) - 1) = k := ⟨(at8 % ((l.length : Int) - 1)).toNat, by have := Int.emod_nonneg at8 (show (l.length : Int) - 1 ≠ 0 by omega); omega⟩
  have hk1 : k + 1 < l.length := by have := Int.emod_lt_of_pos at8 (show (0 : Int) < (l.length : Int) - 1 by omega); omega
  obtain ⟨⟨d, gr, tk⟩, hx⟩ : ∃ x, l[k]? = some x := ⟨_, List.getElem?_eq_getElem (by omega)⟩
  obtain ⟨⟨d', gr', tk'⟩, hy⟩ : ∃ x, l[k + 1]? = some x := ⟨_, List.getElem?_eq_getElem hk1⟩
  have C0 : w0.cell? ⟨b, off + k * 3, none⟩ = some (.int .i64 d) := by simpa using hc k _ hx 0 _ rfl
  have C1 : w0.cell? ⟨b, off + k * 3 + 1, none⟩ = some (.int .i64 gr) := hc k _ hx 1 _ rfl
  have C2 : w0.cell? ⟨b, off + k * 3 + 2, none⟩ = some (.int .i64 tk) := hc k _ hx 2 _ rfl
  have D0 : w0.cell? ⟨b, off + (k + 1) * 3, none⟩ = some (.int .i64 d') := by simpa using hc (k + 1) _ hy 0 _ rfl
  have D1 : w0.cell? ⟨b, off + (k + 1) * 3 + 1, none⟩ = some (.int .i64 gr') := hc (k + 1) _ hy 1 _ rfl
  have D2 : w0.cell? ⟨b, off + (k + 1) * 3 + 2, none⟩ = some (.int .i64 tk') := hc (k + 1) _ hy 2 _ rfl
  have HX := Lib.hid hx
  have HY := Lib.hid hy
  have HK := Lib.hid hk
  have HC := Lib.hid hc
  clear hx hy hk hc
  have K1 : (0 : Int) ≤ k := by omega
  have K2 : (k : Int) < l.length := by omega
  have K3 : (k : Int) + 1 < l.length := by omega
  have K4 : ((k : Int) + 1).toNat = k + 1 := by omega
  have K5 : IntKind.i64.wrap ((k : Int) + 1) = (k : Int) + 1 := IntWalk.i64_in _ (by omega)
  by_cases hd : d = d'
  · subst hd
    by_cases hg : IntKind.i64.wrap (gr + gr') = 0 ∨ IntKind.i64.wrap (tk + tk') = 0
    · have hsplit : l = l.take k ++ ([(d, gr, tk), (d, gr', tk')] ++ l.drop (k + 2)) := by
        have h1 := HX.out
        have h2 := HY.out
        apply List.ext_getElem?
        intro i
        rw [List.getElem?_append, List.length_take, Nat.min_eq_left (by omega)]
        split
        · rw [List.getElem?_take, if_pos (by assumption)]
        · rw [List.getElem?_append]
          split
          · rename_i h3 h4
            rcases (show i = k ∨ i = k + 1 by simp at h4; omega) with rfl | rfl
            · rw [h1]; simp
            · rw [h2]; simp
          · rename_i h3 h4
            rw [List.getElem?_drop]
            simp at h4 ⊢
            congr 1; omega
      have hPk : (l.take k).length = k := by rw [List.length_take]; omega
      generalize l.take k = P at hsplit hPk
      generalize l.drop (k + 2) = Q at hsplit
      have ha := acc_turn (yr := yr) (ca := ca) (ex := ex) (un := 84005) (P := P) (Q := Q) (x := (d, gr, tk)) (y := (d, gr', tk')) rfl hg
      rw [← hsplit] at ha
      have hlen2 : (P ++ ([(d, gr', tk'), (d, gr, tk)] ++ Q)).length = l.length := by rw [hsplit]; simp
      obtain ⟨⟨g, t, e, kp⟩, hacc⟩ : ∃ a, accV yr ca ex 84005 l = a := ⟨_, rfl⟩
      have HF := Lib.hid (fun W A' c hT hS => lv_Fold yr ca ex 84005 l A' c W HI.out hT hS)
      have HF2 := Lib.hid (fun W A' c hT hS => lv_Fold yr ca ex 84005 (P ++ ([(d, gr', tk'), (d, gr, tk)] ++ Q)) A' c W ⟨by rw [hlen2]; exact hlen, HI.out.un, fun x hx => HI.out.day x (by rw [hsplit]; simp only [List.mem_append, List.mem_cons, List.not_mem_nil, or_false] at hx ⊢; rcases hx with h | (h | h) | h <;> simp [h])⟩ hT hS)
      rw [hlen2, ← ha.1, hacc] at HF2
      rw [hacc] at HF
      obtain ⟨q, hq1⟩ : ∃ q, (chkV yr ca ex 84005 l == 0) = q := ⟨_, rfl⟩
      have hq2 : (chkV yr ca ex 84005 (P ++ ([(d, gr', tk'), (d, gr, tk)] ++ Q)) == 0) = q := by
        rw [← hq1]
        exact (Bool.eq_iff_iff.2 (by simpa using ha.2)).symm
      generalize chkV yr ca ex 84005 l = c1 at *
      generalize chkV yr ca ex 84005 (P ++ ([(d, gr', tk'), (d, gr, tk)] ++ Q)) = c2 at *
      have HSP := Lib.hid hsplit
      have HPK := Lib.hid hPk
      clear ha hacc hlen2 hsplit hPk
      have HHG := Lib.hid hg
      obtain hg1 | ⟨hg1, hg2⟩ : (wrap64 (gr + gr') != 0) = false ∨ (wrap64 (gr + gr') != 0) = true ∧ (wrap64 (tk + tk') != 0) = false := by
        have e : ∀ n, wrap64 n = IntKind.i64.wrap n := fun n => (IntWalk.i64_left n).symm
        rw [e, e]
        by_cases h0 : IntKind.i64.wrap (gr + gr') = 0
        · exact .inl (by rw [h0]; rfl)
        · exact .inr ⟨bne_iff_ne.2 h0, by rw [hg.resolve_left h0]; rfl⟩
      · go_enter Tryd.func6, Tryd.ntmps6
        go_wp2_with fail
        rw [HW.out, HPB.out, HK.out]
        go_big_quiet (fail)
        have gq := Grows.of_drewN w0 nq
        have gn : Grows w0 ((w0.drewN nq).alloc (.cells #[] 42)) := (Grows.of_drewN w0 nq).alloc _
        have HN := Sl.news encM_len (w := (w0.drewN nq).alloc (.cells #[] 42)) (b := b) (off := off) (S := l) (fun i x hx j u hu => gn.cell hB (HC.out i x hx j u hu))
        have HN2 : ([] : List Mv).length + l.length ≤ 1000000000 := by simp; omega
        go_wp2_with ((at_builtin; refine wpList_append_rows encM_len encM_one rfl _ _ 25 rfl w0.heap.size 42 _ 24 Tryd.underlying25 moveInfo rfl (by decide) _ [] l rfl (Own.lit0 _ gq.size) b off l.length cap rfl rfl HN HN2 (by decide) gn.size ?_))
        intro v1 w1 hown1 hgr1
        obtain ⟨rb, rc, rfl, hrb, hrs, hrw, -⟩ := hown1.sl encM_len (by intro h; have h : l = [] := h; simp [h] at h1)
        have hb1 : Below w0.heap.size w0 w1 := bwTrans gn.below (grownBelow hgr1 (fun k hk => by simp only [Value.ownBlock, Option.some.injEq] at hk; omega) gn.size) (Nat.le_refl _)
        have HB1 := Lib.hid hb1
        have HRW := Lib.hid hrw
        have t1 := t0.below hb1 t0.size
        obtain ⟨pa, hpa⟩ : ∃ p, k * 3 = p := ⟨_, rfl⟩
        obtain ⟨pq, hpq⟩ : ∃ p, (k + 1) * 3 = p := ⟨_, rfl⟩
        obtain ⟨⟨x0, x1, x2⟩, f0, f1, f2⟩ := mvFacts hrw HX.out hpa
        obtain ⟨⟨y0, y1, y2⟩, f3, f4, f5⟩ := mvFacts hrw HY.out hpq
        have hsw := mvSwap (HSP.out ▸ hrw) HPK.out
        rw [hpa, hpq] at hsw
        have n1 : ¬ pa = pq := by omega
        have n2 : ¬ pa + 1 = pq := by omega
        have n3 : ¬ pa + 2 = pq := by omega
        have n4 : ¬ pa = pq + 1 := by omega
        have n5 : ¬ pa + 1 = pq + 1 := by omega
        have n6 : ¬ pa + 2 = pq + 1 := by omega
        have n7 : ¬ pa = pq + 2 := by omega
        have n8 : ¬ pa + 1 = pq + 2 := by omega
        have n9 : ¬ pa + 2 = pq + 2 := by omega
        have HSW := Lib.hid hsw
        clear hown1 hgr1 hb1 hrw HN gq gn hsw C0 C1 C2 D0 D1 D2
        go_wp2_with fail
        go_region
        obtain ⟨wz, hwz⟩ : ∃ x, ((((((w1.setCell ⟨rb, pa, none⟩ (.int .i64 d)).setCell ⟨rb, pa + 1, none⟩ (.int .i64 gr')).setCell ⟨rb, pa + 2, none⟩ (.int .i64 tk')).setCell ⟨rb, pq, none⟩ (.int .i64 d)).setCell ⟨rb, pq + 1, none⟩ (.int .i64 gr)).setCell ⟨rb, pq + 2, none⟩ (.int .i64 tk)).drew = x := ⟨_, rfl⟩
        have hz : w1.grownBy wz (some rb) ∧ Rw encM 3 42 rb rc (P ++ ([(d, gr', tk'), (d, gr, tk)] ++ Q)) wz := hwz ▸ ⟨gDrew HSW.out.1, Rw.drew HSW.out.2⟩
        have hbz : Below w0.heap.size w0 wz := bwTrans HB1.out (grownBelow hz.1 (fun k hk => by simp only [Option.some.injEq] at hk; omega) HB1.out.size) (Nat.le_refl _)
        have bz : Bk pb 23 #[.int .i64 yr, .int .i64 ca, .int .i64 ex] wz := (hbz.block pb s0).trans HP.out
        have sz : Sl encM 3 wz wz.heap.size (some ⟨b, off, none⟩) l := ((HS.out.keep (fun b o hb => hbz.cell (p := ⟨b, o, none⟩) hb)).more hbz.size)
        have tz := t0.below hbz t0.size
        have hrz := hz.2
        have HBZ := Lib.hid hbz
        have HHRZ := Lib.hid hrz
        have HBK := Lib.hid bz
        rw [hwz]
        clear hwz hz hbz hrz x0 x1 x2 y0 y1 y2 f0 f1 f2 f3 f4 f5 n1 n2 n3 n4 n5 n6 n7 n8 n9 HSW
        have P0 : wz.cell? ⟨pb, 0, none⟩ = some (.int .i64 yr) := HBK.out.cell 0
        have P1 : wz.cell? ⟨pb, 1, none⟩ = some (.int .i64 ca) := HBK.out.cell 1
        have P2 : wz.cell? ⟨pb, 2, none⟩ = some (.int .i64 ex) := HBK.out.cell 2
        clear bz
        go_wp2_with fail
        refine (HF.out _ _ _ tz sz).mono ?_
        rintro e' w2 ⟨rfl, hb2⟩
        have bk2 : Bk pb 23 #[.int .i64 yr, .int .i64 ca, .int .i64 ex] w2 := (hb2.block pb HBK.out.lt).trans HBK.out
        have hr2 := HHRZ.out.below hb2 HHRZ.out.lt
        have t2 := tz.below hb2 tz.size
        obtain ⟨wa, hwa⟩ : ∃ x, w2.alloc (.cells #[.int .i64 g, .int .i64 t, .int .i64 e, .int .i64 kp] 28) = x := ⟨_, rfl⟩
        have ga : Grows w2 wa := hwa ▸ .of_alloc _ _
        have ba : Bk w2.heap.size 28 #[.int .i64 g, .int .i64 t, .int .i64 e, .int .i64 kp] wa := hwa ▸ Bk.new w2 _ _
        have bka := bk2.grows ga
        have hra : Rw encM 3 42 rb rc (P ++ ([(d, gr', tk'), (d, gr, tk)] ++ Q)) wa := hr2.below ga.below hr2.lt
        have sa : Sl encM 3 wa wa.heap.size (some ⟨rb, 0, none⟩) (P ++ ([(d, gr', tk'), (d, gr, tk)] ++ Q)) := fun _ => ⟨rb, 0, rfl, hra.lt, fun i x hx j u hu => by rw [Nat.zero_add]; exact hra.cell hx hu⟩
        have ta := t2.grows ga
        have q0 : wa.cell? ⟨pb, 0, none⟩ = some (.int .i64 yr) := bka.cell 0
        have q1 : wa.cell? ⟨pb, 1, none⟩ = some (.int .i64 ca) := bka.cell 1
        have q2 : wa.cell? ⟨pb, 2, none⟩ = some (.int .i64 ex) := bka.cell 2
        rw [← hwa] at q0 q1 q2
        have u0 : w2.cell? ⟨pb, 0, none⟩ = some (.int .i64 yr) := bk2.cell 0
        have u1 : w2.cell? ⟨pb, 1, none⟩ = some (.int .i64 ca) := bk2.cell 1
        have u2 : w2.cell? ⟨pb, 2, none⟩ = some (.int .i64 ex) := bk2.cell 2
        have FIN2 : Hid (∀ w3, Below wa.heap.size wa w3 → Below w.heap.size w w3) := Lib.hid fun w3 h => FIN.out _ (bwTrans HBZ.out (bwTrans hb2 (bwTrans ga.below h ga.size) hb2.size) HBZ.out.size)
        have HBA := Lib.hid ba
        have GA := Lib.hid ga
        have HWA := Lib.hid hwa
        clear P0 P1 P2 hb2 hwa ba ga bk2 bka hra hr2
        go_wp2_with fail
        rw [HWA.out]
        refine (HF2.out _ _ _ ta sa).mono ?_
        rintro e' w3 ⟨rfl, hb3⟩
        have t3 := ta.below hb3 ta.size
        obtain ⟨ab, hab⟩ : ∃ x, w2.heap.size = x := ⟨_, rfl⟩
        rw [hab] at HBA
        rw [hab]
        have b3 : Bk ab 28 #[.int .i64 g, .int .i64 t, .int .i64 e, .int .i64 kp] w3 := (hb3.block ab HBA.out.lt).trans HBA.out
        obtain ⟨wb, hwb⟩ : ∃ x, w3.alloc (.cells #[.int .i64 g, .int .i64 t, .int .i64 e, .int .i64 kp] 28) = x := ⟨_, rfl⟩
        have gb : Grows w3 wb := hwb ▸ .of_alloc _ _
        have bb : Bk w3.heap.size 28 #[.int .i64 g, .int .i64 t, .int .i64 e, .int .i64 kp] wb := hwb ▸ Bk.new w3 _ _
        have b4 := b3.grows gb
        have tb := t3.grows gb
        have z0 : wb.cell? ⟨ab, 0, none⟩ = some (.int .i64 g) := b4.cell 0
        have z1 : wb.cell? ⟨ab, 1, none⟩ = some (.int .i64 t) := b4.cell 1
        have z2 : wb.cell? ⟨ab, 2, none⟩ = some (.int .i64 e) := b4.cell 2
        have z3 : wb.cell? ⟨ab, 3, none⟩ = some (.int .i64 kp) := b4.cell 3
        have y0 : wb.cell? ⟨w3.heap.size, 0, none⟩ = some (.int .i64 g) := bb.cell 0
        have y1 : wb.cell? ⟨w3.heap.size, 1, none⟩ = some (.int .i64 t) := bb.cell 1
        have y2 : wb.cell? ⟨w3.heap.size, 2, none⟩ = some (.int .i64 e) := bb.cell 2
        have y3 : wb.cell? ⟨w3.heap.size, 3, none⟩ = some (.int .i64 kp) := bb.cell 3
        rw [← hwb] at z0 z1 z2 z3 y0 y1 y2 y3 tb
        have v0 : w3.cell? ⟨ab, 0, none⟩ = some (.int .i64 g) := b3.cell 0
        have v1 : w3.cell? ⟨ab, 1, none⟩ = some (.int .i64 t) := b3.cell 1
        have v2 : w3.cell? ⟨ab, 2, none⟩ = some (.int .i64 e) := b3.cell 2
        have v3 : w3.cell? ⟨ab, 3, none⟩ = some (.int .i64 kp) := b3.cell 3
        have FB3 : Hid (∀ w4, Below (w3.alloc (.cells #[.int .i64 g, .int .i64 t, .int .i64 e, .int .i64 kp] 28)).heap.size (w3.alloc (.cells #[.int .i64 g, .int .i64 t, .int .i64 e, .int .i64 kp] 28)) w4 → Below w.heap.size w w4) := Lib.hid fun w4 h => FIN2.out _ (bwTrans hb3 (bwTrans (Grows.of_alloc w3 _).below h (Grows.of_alloc w3 _).size) hb3.size)
        clear hb3 hwb gb bb b3 b4 hab u0 u1 u2 q0 q1 q2
        go_wp2_with fail
        refine (AW.out _ tb).mono ?_
        rintro e' w5 ⟨rfl, hb5⟩
        have FB := Lib.hid (FB3.out _ hb5)
        clear hb5
        go_wp2
        go_ret
        exact ⟨rfl, FB.out⟩
      · go_enter Tryd.func6, Tryd.ntmps6
        go_wp2_with fail
        rw [HW.out, HPB.out, HK.out]
        go_big_quiet (fail)
        have gq := Grows.of_drewN w0 nq
        have gn : Grows w0 ((w0.drewN nq).alloc (.cells #[] 42)) := (Grows.of_drewN w0 nq).alloc _
        have HN := Sl.news encM_len (w := (w0.drewN nq).alloc (.cells #[] 42)) (b := b) (off := off) (S := l) (fun i x hx j u hu => gn.cell hB (HC.out i x hx j u hu))
        have HN2 : ([] : List Mv).length + l.length ≤ 1000000000 := by simp; omega
        go_wp2_with ((at_builtin; refine wpList_append_rows encM_len encM_one rfl _ _ 25 rfl w0.heap.size 42 _ 24 Tryd.underlying25 moveInfo rfl (by decide) _ [] l rfl (Own.lit0 _ gq.size) b off l.length cap rfl rfl HN HN2 (by decide) gn.size ?_))
        intro v1 w1 hown1 hgr1
        obtain ⟨rb, rc, rfl, hrb, hrs, hrw, -⟩ := hown1.sl encM_len (by intro h; have h : l = [] := h; simp [h] at h1)
        have hb1 : Below w0.heap.size w0 w1 := bwTrans gn.below (grownBelow hgr1 (fun k hk => by simp only [Value.ownBlock, Option.some.injEq] at hk; omega) gn.size) (Nat.le_refl _)
        have HB1 := Lib.hid hb1
        have HRW := Lib.hid hrw
        have t1 := t0.below hb1 t0.size
        obtain ⟨pa, hpa⟩ : ∃ p, k * 3 = p := ⟨_, rfl⟩
        obtain ⟨pq, hpq⟩ : ∃ p, (k + 1) * 3 = p := ⟨_, rfl⟩
        obtain ⟨⟨x0, x1, x2⟩, f0, f1, f2⟩ := mvFacts hrw HX.out hpa
        obtain ⟨⟨y0, y1, y2⟩, f3, f4, f5⟩ := mvFacts hrw HY.out hpq
        have hsw := mvSwap (HSP.out ▸ hrw) HPK.out
        rw [hpa, hpq] at hsw
        have n1 : ¬ pa = pq := by omega
        have n2 : ¬ pa + 1 = pq := by omega
        have n3 : ¬ pa + 2 = pq := by omega
        have n4 : ¬ pa = pq + 1 := by omega
        have n5 : ¬ pa + 1 = pq + 1 := by omega
        have n6 : ¬ pa + 2 = pq + 1 := by omega
        have n7 : ¬ pa = pq + 2 := by omega
        have n8 : ¬ pa + 1 = pq + 2 := by omega
        have n9 : ¬ pa + 2 = pq + 2 := by omega
        have HSW := Lib.hid hsw
        clear hown1 hgr1 hb1 hrw HN gq gn hsw C0 C1 C2 D0 D1 D2
        go_wp2_with fail
        go_region
        obtain ⟨wz, hwz⟩ : ∃ x, ((((((w1.setCell ⟨rb, pa, none⟩ (.int .i64 d)).setCell ⟨rb, pa + 1, none⟩ (.int .i64 gr')).setCell ⟨rb, pa + 2, none⟩ (.int .i64 tk')).setCell ⟨rb, pq, none⟩ (.int .i64 d)).setCell ⟨rb, pq + 1, none⟩ (.int .i64 gr)).setCell ⟨rb, pq + 2, none⟩ (.int .i64 tk)).drew = x := ⟨_, rfl⟩
        have hz : w1.grownBy wz (some rb) ∧ Rw encM 3 42 rb rc (P ++ ([(d, gr', tk'), (d, gr, tk)] ++ Q)) wz := hwz ▸ ⟨gDrew HSW.out.1, Rw.drew HSW.out.2⟩
        have hbz : Below w0.heap.size w0 wz := bwTrans HB1.out (grownBelow hz.1 (fun k hk => by simp only [Option.some.injEq] at hk; omega) HB1.out.size) (Nat.le_refl _)
        have bz : Bk pb 23 #[.int .i64 yr, .int .i64 ca, .int .i64 ex] wz := (hbz.block pb s0).trans HP.out
        have sz : Sl encM 3 wz wz.heap.size (some ⟨b, off, none⟩) l := ((HS.out.keep (fun b o hb => hbz.cell (p := ⟨b, o, none⟩) hb)).more hbz.size)
        have tz := t0.below hbz t0.size
        have hrz := hz.2
        have HBZ := Lib.hid hbz
        have HHRZ := Lib.hid hrz
        have HBK := Lib.hid bz
        rw [hwz]
        clear hwz hz hbz hrz x0 x1 x2 y0 y1 y2 f0 f1 f2 f3 f4 f5 n1 n2 n3 n4 n5 n6 n7 n8 n9 HSW
        have P0 : wz.cell? ⟨pb, 0, none⟩ = some (.int .i64 yr) := HBK.out.cell 0
        have P1 : wz.cell? ⟨pb, 1, none⟩ = some (.int .i64 ca) := HBK.out.cell 1
        have P2 : wz.cell? ⟨pb, 2, none⟩ = some (.int .i64 ex) := HBK.out.cell 2
        clear bz
        go_wp2_with fail
        refine (HF.out _ _ _ tz sz).mono ?_
        rintro e' w2 ⟨rfl, hb2⟩
        have bk2 : Bk pb 23 #[.int .i64 yr, .int .i64 ca, .int .i64 ex] w2 := (hb2.block pb HBK.out.lt).trans HBK.out
        have hr2 := HHRZ.out.below hb2 HHRZ.out.lt
        have t2 := tz.below hb2 tz.size
        obtain ⟨wa, hwa⟩ : ∃ x, w2.alloc (.cells #[.int .i64 g, .int .i64 t, .int .i64 e, .int .i64 kp] 28) = x := ⟨_, rfl⟩
        have ga : Grows w2 wa := hwa ▸ .of_alloc _ _
        have ba : Bk w2.heap.size 28 #[.int .i64 g, .int .i64 t, .int .i64 e, .int .i64 kp] wa := hwa ▸ Bk.new w2 _ _
        have bka := bk2.grows ga
        have hra : Rw encM 3 42 rb rc (P ++ ([(d, gr', tk'), (d, gr, tk)] ++ Q)) wa := hr2.below ga.below hr2.lt
        have sa : Sl encM 3 wa wa.heap.size (some ⟨rb, 0, none⟩) (P ++ ([(d, gr', tk'), (d, gr, tk)] ++ Q)) := fun _ => ⟨rb, 0, rfl, hra.lt, fun i x hx j u hu => by rw [Nat.zero_add]; exact hra.cell hx hu⟩
        have ta := t2.grows ga
        have q0 : wa.cell? ⟨pb, 0, none⟩ = some (.int .i64 yr) := bka.cell 0
        have q1 : wa.cell? ⟨pb, 1, none⟩ = some (.int .i64 ca) := bka.cell 1
        have q2 : wa.cell? ⟨pb, 2, none⟩ = some (.int .i64 ex) := bka.cell 2
        rw [← hwa] at q0 q1 q2
        have u0 : w2.cell? ⟨pb, 0, none⟩ = some (.int .i64 yr) := bk2.cell 0
        have u1 : w2.cell? ⟨pb, 1, none⟩ = some (.int .i64 ca) := bk2.cell 1
        have u2 : w2.cell? ⟨pb, 2, none⟩ = some (.int .i64 ex) := bk2.cell 2
        have FIN2 : Hid (∀ w3, Below wa.heap.size wa w3 → Below w.heap.size w w3) := Lib.hid fun w3 h => FIN.out _ (bwTrans HBZ.out (bwTrans hb2 (bwTrans ga.below h ga.size) hb2.size) HBZ.out.size)
        have HBA := Lib.hid ba
        have GA := Lib.hid ga
        have HWA := Lib.hid hwa
        clear P0 P1 P2 hb2 hwa ba ga bk2 bka hra hr2
        go_wp2_with fail
        rw [HWA.out]
        refine (HF2.out _ _ _ ta sa).mono ?_
        rintro e' w3 ⟨rfl, hb3⟩
        have t3 := ta.below hb3 ta.size
        obtain ⟨ab, hab⟩ : ∃ x, w2.heap.size = x := ⟨_, rfl⟩
        rw [hab] at HBA
        rw [hab]
        have b3 : Bk ab 28 #[.int .i64 g, .int .i64 t, .int .i64 e, .int .i64 kp] w3 := (hb3.block ab HBA.out.lt).trans HBA.out
        obtain ⟨wb, hwb⟩ : ∃ x, w3.alloc (.cells #[.int .i64 g, .int .i64 t, .int .i64 e, .int .i64 kp] 28) = x := ⟨_, rfl⟩
        have gb : Grows w3 wb := hwb ▸ .of_alloc _ _
        have bb : Bk w3.heap.size 28 #[.int .i64 g, .int .i64 t, .int .i64 e, .int .i64 kp] wb := hwb ▸ Bk.new w3 _ _
        have b4 := b3.grows gb
        have tb := t3.grows gb
        have z0 : wb.cell? ⟨ab, 0, none⟩ = some (.int .i64 g) := b4.cell 0
        have z1 : wb.cell? ⟨ab, 1, none⟩ = some (.int .i64 t) := b4.cell 1
        have z2 : wb.cell? ⟨ab, 2, none⟩ = some (.int .i64 e) := b4.cell 2
        have z3 : wb.cell? ⟨ab, 3, none⟩ = some (.int .i64 kp) := b4.cell 3
        have y0 : wb.cell? ⟨w3.heap.size, 0, none⟩ = some (.int .i64 g) := bb.cell 0
        have y1 : wb.cell? ⟨w3.heap.size, 1, none⟩ = some (.int .i64 t) := bb.cell 1
        have y2 : wb.cell? ⟨w3.heap.size, 2, none⟩ = some (.int .i64 e) := bb.cell 2
        have y3 : wb.cell? ⟨w3.heap.size, 3, none⟩ = some (.int .i64 kp) := bb.cell 3
        rw [← hwb] at z0 z1 z2 z3 y0 y1 y2 y3 tb
        have v0 : w3.cell? ⟨ab, 0, none⟩ = some (.int .i64 g) := b3.cell 0
        have v1 : w3.cell? ⟨ab, 1, none⟩ = some (.int .i64 t) := b3.cell 1
        have v2 : w3.cell? ⟨ab, 2, none⟩ = some (.int .i64 e) := b3.cell 2
        have v3 : w3.cell? ⟨ab, 3, none⟩ = some (.int .i64 kp) := b3.cell 3
        have FB3 : Hid (∀ w4, Below (w3.alloc (.cells #[.int .i64 g, .int .i64 t, .int .i64 e, .int .i64 kp] 28)).heap.size (w3.alloc (.cells #[.int .i64 g, .int .i64 t, .int .i64 e, .int .i64 kp] 28)) w4 → Below w.heap.size w w4) := Lib.hid fun w4 h => FIN2.out _ (bwTrans hb3 (bwTrans (Grows.of_alloc w3 _).below h (Grows.of_alloc w3 _).size) hb3.size)
        clear hb3 hwb gb bb b3 b4 hab u0 u1 u2 q0 q1 q2
        go_wp2_with fail
        refine (AW.out _ tb).mono ?_
        rintro e' w5 ⟨rfl, hb5⟩
        have FB := Lib.hid (FB3.out _ hb5)
        clear hb5
        go_wp2
        go_ret
        exact ⟨rfl, FB.out⟩
    · obtain ⟨hg1, hg2⟩ : (wrap64 (gr + gr') != 0) = true ∧ (wrap64 (tk + tk') != 0) = true := by
        have e : ∀ n, wrap64 n = IntKind.i64.wrap n := fun n => (IntWalk.i64_left n).symm
        rw [e, e]
        simp only [not_or] at hg
        exact ⟨bne_iff_ne.2 hg.1, bne_iff_ne.2 hg.2⟩
      go_enter Tryd.func6, Tryd.ntmps6
      go_wp2_with fail
      rw [HW.out, HPB.out, HK.out]
      go_big_quiet (fail)
      go_wp2_with fail
      refine (AW.out _ (t0.grows (Grows.of_drewN _ _))).mono ?_
      rintro e' w2 ⟨rfl, hb⟩
      have FB := Lib.hid (FIN.out _ (bwTrans (Grows.of_drewN w0 _).below hb (Grows.of_drewN w0 _).size))
      clear hb
      go_wp2
      go_ret
      exact ⟨rfl, FB.out⟩
  · have hd1 : (d != d') = true := by simpa using hd
    go_enter Tryd.func6, Tryd.ntmps6
    go_wp2_with fail
    rw [HW.out, HPB.out, HK.out]
    go_quiet (fail)
    go_wp2_with fail
    refine (AW.out _ (t0.grows (Grows.of_drewN _ _))).mono ?_
    rintro e' w2 ⟨rfl, hb⟩
    have FB := Lib.hid (FIN.out _ (bwTrans (Grows.of_drewN w0 _).below hb (Grows.of_drewN w0 _).size))
    clear hb
    go_wp2
    go_ret
    exact ⟨rfl, FB.out⟩
end Go.Proofs.YtkbpdbfldijeeaaDoor
