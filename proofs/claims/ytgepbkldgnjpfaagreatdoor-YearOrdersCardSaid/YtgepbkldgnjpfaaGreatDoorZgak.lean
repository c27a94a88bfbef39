/- Out of: Yt1. -/
import Derived.Test.YtgepbkldgnjpfaaGreatDoorZgai
import Derived.Test.YtgepbkldgnjpfaaGreatDoorZgaj
/- year's laws: the walk of YearOrders (gen/mkyt1.py). -/
namespace Go.Proofs.YtgepbkldgnjpfaaGreatDoor
open Go.RowKit Go.Sort Go.BigFrame Go.Maps

/-- A month with the one order. -/
def orM (F T : Int) (M : Mon) : Mon := { M with od := [odX F T] }
theorem takeSucc {α β : Type} {l : List α} {n : Nat} {x : α} (f : α → β) (h : l[n]? = some x) : (l.take (n + 1)).map f = (l.take n).map f ++ [f x] := by
  rw [List.take_add_one, h]
  simp
set_option maxHeartbeats 4000000 in
set_option maxRecDepth 100000 in
theorem lw_YearOrders (l : List (Mon × MoA)) (A : Option Addr) (cap : Nat) (fx tt : Int) (w : World) (hl : l.length ≤ 140737488355328) (hfx : 0 ≤ fx ∧ fx ≤ 4294967295) (htt : 0 ≤ tt ∧ tt ≤ 4294967295) (hs : InMo w A l) (hT : TbP w) :
    Calls Tryz.prog 5 #[.slice A l.length cap, .int .u32 fx, .int .u32 tt] w fun e w' => e = .returned (.bool true) ∧ Below w.heap.size w w' := by
  obtain ⟨G, hG⟩ : ∃ g, greatB (l.map Prod.fst) = g := ⟨_, rfl⟩
  have HGR : Hid (Calls Tryz.prog 9 #[.slice A l.length cap] w fun e w' => e = .returned (.bool G) ∧ Below w.heap.size w w') := Lib.hid (by rw [← hG]; exact la_greatI l A cap w hl hs)
  have HG := Lib.hid hG
  have HS := Lib.hid hs
  have HT := Lib.hid hT
  have HAW : Hid (∀ W, Below w.heap.size w W → Calls Tryz.prog 10 #[] W fun e w' => e = .returned (.bool true) ∧ Below W.heap.size W w') := Lib.hid (fun W hW => la_awake28 W (hT.below hW))
  clear hG hs hT
  go_enter Tryz.func5, Tryz.ntmps5
  go_wp2_with fail
  refine HGR.out.mono ?_
  rintro e w1 ⟨rfl, hb1⟩
  have HB1 := Lib.hid hb1
  cases G with
  | true =>
    go_wp2_with fail
    refine (HAW.out _ HB1.out).mono ?_
    rintro e w2 ⟨rfl, hb2⟩
    go_wp2
    go_ret
    exact ⟨rfl, bTrans HB1.out hb2⟩
  | false =>
  obtain ⟨hsm, hl30⟩ := (HS.out.below hb1).ok HG.out
  have HSM := Lib.hid hsm
  have HL30 := Lib.hid hl30
  clear hb1 hsm
  obtain ⟨B0, hB0⟩ : ∃ x, w1.heap.size = x := ⟨_, rfl⟩
  have HBE := Lib.hid hB0
  clear hB0
  have wf : IntKind.i64.wrap fx = fx := by rw [IntKind.wrap_i64]; omega
  have wt : IntKind.i64.wrap tt = tt := by rw [IntKind.wrap_i64]; omega
  have wf1 : IntKind.i64.wrap (1 + fx) = 1 + fx := by rw [IntKind.wrap_i64]; omega
  have wt1 : IntKind.i64.wrap (1 + tt) = 1 + tt := by rw [IntKind.wrap_i64]; omega
  have hR : MoR B0 (ROd w1 B0) := moROd w1 B0 (Nat.le_of_eq HBE.out)
  have HR := Lib.hid hR
  clear hR
  go_wp2_with fail
  go_loopg [7, 8] l.length (fun kk ov iv wr => ∃ (sv : Value) (n : Nat) (ps : List (Mon × MoA)), sv = ov ∧ n + kk = l.length ∧ iv = .int .i64 n ∧ Hid (ps.map Prod.fst = (l.take n).map fun p => orM (1 + fx) (1 + tt) p.1) ∧ Hid (OwnMs B0 (ROd w1 B0) ov ps wr) ∧ Hid (Below w1.heap.size w1 wr))
  case atStart => exact ⟨_, 0, [], rfl, Nat.zero_add _, rfl, Lib.hid rfl, Lib.hid OwnMs.nil, Lib.hid (Below.refl _ _)⟩
  case round =>
    obtain ⟨ov, n, ps, rfl, hn1, rfl, HPS, HOW, HBR⟩ := hrel
    have HLP : Hid (ps.length = n) := Lib.hid (by have h := congrArg List.length HPS.out; rw [List.length_map, List.length_map, List.length_take] at h; omega)
    by_cases hlt : n < l.length
    · obtain ⟨b, off, rfl, hB, hc⟩ := (HSM.out.1) (by intro h; simp [h] at hlt)
      obtain ⟨⟨M, MA⟩, hx⟩ : ∃ x, l[n]? = some x := ⟨_, List.getElem?_eq_getElem hlt⟩
      have HM : Hid (MoOk M MA w1) := Lib.hid (HSM.out.2 _ (List.mem_of_getElem? hx))
      have c0 : wr.cell? ⟨b, off + n * 12, none⟩ = some (.int .i64 M.y) := (HBR.out.cell (p := ⟨b, off + n * 12, none⟩) hB).trans (by simpa using hc n _ hx 0 _ rfl)
      have c1 : wr.cell? ⟨b, off + n * 12 + 1, none⟩ = some (.int .i64 M.i) := (HBR.out.cell (p := ⟨b, off + n * 12 + 1, none⟩) hB).trans (hc n _ hx 1 _ rfl)
      have c2 : wr.cell? ⟨b, off + n * 12 + 2, none⟩ = some (.int .i64 M.o) := (HBR.out.cell (p := ⟨b, off + n * 12 + 2, none⟩) hB).trans (hc n _ hx 2 _ rfl)
      have c3 : wr.cell? ⟨b, off + n * 12 + 3, none⟩ = some (.slice MA.gr.1 M.gr.length MA.gr.2) := (HBR.out.cell (p := ⟨b, off + n * 12 + 3, none⟩) hB).trans (hc n _ hx 3 _ rfl)
      have c4 : wr.cell? ⟨b, off + n * 12 + 4, none⟩ = some (.slice MA.be.1 M.be.length MA.be.2) := (HBR.out.cell (p := ⟨b, off + n * 12 + 4, none⟩) hB).trans (hc n _ hx 4 _ rfl)
      have c5 : wr.cell? ⟨b, off + n * 12 + 5, none⟩ = some (.slice MA.af.1 M.af.length MA.af.2) := (HBR.out.cell (p := ⟨b, off + n * 12 + 5, none⟩) hB).trans (hc n _ hx 5 _ rfl)
      have c6 : wr.cell? ⟨b, off + n * 12 + 6, none⟩ = some (.slice MA.li.1 M.li.length MA.li.2) := (HBR.out.cell (p := ⟨b, off + n * 12 + 6, none⟩) hB).trans (hc n _ hx 6 _ rfl)
      have c7 : wr.cell? ⟨b, off + n * 12 + 7, none⟩ = some (.slice MA.sc.1 M.sc.length MA.sc.2) := (HBR.out.cell (p := ⟨b, off + n * 12 + 7, none⟩) hB).trans (hc n _ hx 7 _ rfl)
      have c8 : wr.cell? ⟨b, off + n * 12 + 8, none⟩ = some (.int .i64 M.al) := (HBR.out.cell (p := ⟨b, off + n * 12 + 8, none⟩) hB).trans (hc n _ hx 8 _ rfl)
      have c9 : wr.cell? ⟨b, off + n * 12 + 9, none⟩ = some (.int .i64 M.ex) := (HBR.out.cell (p := ⟨b, off + n * 12 + 9, none⟩) hB).trans (hc n _ hx 9 _ rfl)
      have c10 : wr.cell? ⟨b, off + n * 12 + 10, none⟩ = some (.slice MA.ba.1 M.ba.length MA.ba.2) := (HBR.out.cell (p := ⟨b, off + n * 12 + 10, none⟩) hB).trans (hc n _ hx 10 _ rfl)
      have c11 : wr.cell? ⟨b, off + n * 12 + 11, none⟩ = some (.slice MA.od.1 M.od.length MA.od.2) := (HBR.out.cell (p := ⟨b, off + n * 12 + 11, none⟩) hB).trans (hc n _ hx 11 _ rfl)
      obtain ⟨mb, hmb⟩ : ∃ y, wr.heap.size = y := ⟨_, rfl⟩
      obtain ⟨wa, hwa⟩ : ∃ y, wr.alloc (.cells #[.int .i64 M.y, .int .i64 M.i, .int .i64 M.o, .slice MA.gr.1 M.gr.length MA.gr.2, .slice MA.be.1 M.be.length MA.be.2, .slice MA.af.1 M.af.length MA.af.2, .slice MA.li.1 M.li.length MA.li.2, .slice MA.sc.1 M.sc.length MA.sc.2, .int .i64 M.al, .int .i64 M.ex, .slice MA.ba.1 M.ba.length MA.ba.2, .slice MA.od.1 M.od.length MA.od.2] 54) = y := ⟨_, rfl⟩
      have HKM : Hid (Bk mb 54 (moC M MA) wa) := Lib.hid (by rw [← hwa, ← hmb]; exact Bk.new _ _ _)
      have HBA : Hid (Below wr.heap.size wr wa) := Lib.hid (by rw [← hwa]; exact bAlloc wr _)
      have HWF := Lib.hid (And.intro hmb hwa)
      have HXL : Hid ((ps ++ [(orM (1 + fx) (1 + tt) M, MA)]).length = n + 1 ∧ (l.take (n + 1)).map (fun p => orM (1 + fx) (1 + tt) p.1) = (l.take n).map (fun p => orM (1 + fx) (1 + tt) p.1) ++ [orM (1 + fx) (1 + tt) M]) := Lib.hid ⟨by rw [List.length_append, HLP.out]; rfl, takeSucc _ hx⟩
      clear hc hx hmb hwa
      go_upto_region 8 with fail
      rw [HWF.out.2, HWF.out.1]
      clear c0 c1 c2 c3 c4 c5 c6 c7 c8 c9 c10 c11
      obtain ⟨ob, hob⟩ : ∃ y, wa.heap.size = y := ⟨_, rfl⟩
      obtain ⟨ws, hws⟩ : ∃ y, wa.setCell ⟨mb, 11, none⟩ (.slice (some ⟨ob, 0, none⟩) 1 1) = y := ⟨_, rfl⟩
      obtain ⟨y, hy⟩ : ∃ y, ws.alloc (.cells #[.string { data := #[108, 111, 97, 110] }, .int .i64 0, .int .i64 0, .int .i64 (1 + fx), .int .i64 0, .int .i64 (1 + tt)] 61) = y := ⟨_, rfl⟩
      have hbs := HBR.out.size
      have hbs2 := HBA.out.size
      have hmbe := HWF.out.1
      have hbe := HBE.out
      have hss : ws.heap.size = ob := by rw [← hws, ← hob]; simp [World.setCell]
      have HOY : Hid (Own encO 6 61 B0 (.slice (some ⟨ob, 0, none⟩) 1 1) [odX (1 + fx) (1 + tt)] y) := Lib.hid (by rw [← hy, ← hss]; exact ownNew1 encO_len (odX (1 + fx) (1 + tt)) ws (by omega))
      have hks : Bk mb 54 (moC (orM (1 + fx) (1 + tt) M) { MA with od := (some ⟨ob, 0, none⟩, 1) }) ws := by rw [← hws]; exact HKM.out.set_ 11 _
      have HKY : Hid (Bk mb 54 (moC (orM (1 + fx) (1 + tt) M) { MA with od := (some ⟨ob, 0, none⟩, 1) }) y) := Lib.hid (bkBel hks (by rw [← hy]; exact bAlloc ws _))
      have hkb11 := HKM.out.cell 11
      have hfz : wa.frozen? ⟨mb, 11, none⟩ = false := HKM.out.frozen 11
      have hlt9 : mb < wa.heap.size := HKM.out.lt
      have hne9 : mb ≠ wa.heap.size := by omega
      have HBY : Hid (Below wr.heap.size wr y) := Lib.hid (by
        have h1 : Below wr.heap.size wr ws := by rw [← hws]; exact HBA.out.setCell (by show wr.heap.size ≤ mb; omega) _
        rw [← hy]
        exact h1.trans ((bAlloc ws _).mono h1.size))
      have HRX : Hid (ROd w1 B0 (orM (1 + fx) (1 + tt) M, { MA with od := (some ⟨ob, 0, none⟩, 1) }) y) := Lib.hid ⟨⟨(show MoOk (noOd M) (noOdA MA) w1 from noOd_ok HM.out), bTrans HBR.out HBY.out⟩, ⟨by show 1 ≤ 1000000; decide, fun x hx => by rw [List.mem_singleton.1 hx]; show cLoan.size ≤ _; decide⟩, HOY.out⟩
      have HWG := Lib.hid (And.intro hob (And.intro hws hy))
      clear hws hy hks hob hss hbs hbs2 hmbe hbe
      go_upto_region 9 with fail
      rw [HWG.out.1, HWG.out.2.1, HWG.out.2.2]
      clear HWG hkb11 hfz hlt9 hne9
      have c0 : y.cell? ⟨mb, 0, none⟩ = some (.int .i64 M.y) := Bk.cell (HKY.out) 0
      have c1 : y.cell? ⟨mb, 1, none⟩ = some (.int .i64 M.i) := Bk.cell (HKY.out) 1
      have c2 : y.cell? ⟨mb, 2, none⟩ = some (.int .i64 M.o) := Bk.cell (HKY.out) 2
      have c3 : y.cell? ⟨mb, 3, none⟩ = some (.slice MA.gr.1 M.gr.length MA.gr.2) := Bk.cell (HKY.out) 3
      have c4 : y.cell? ⟨mb, 4, none⟩ = some (.slice MA.be.1 M.be.length MA.be.2) := Bk.cell (HKY.out) 4
      have c5 : y.cell? ⟨mb, 5, none⟩ = some (.slice MA.af.1 M.af.length MA.af.2) := Bk.cell (HKY.out) 5
      have c6 : y.cell? ⟨mb, 6, none⟩ = some (.slice MA.li.1 M.li.length MA.li.2) := Bk.cell (HKY.out) 6
      have c7 : y.cell? ⟨mb, 7, none⟩ = some (.slice MA.sc.1 M.sc.length MA.sc.2) := Bk.cell (HKY.out) 7
      have c8 : y.cell? ⟨mb, 8, none⟩ = some (.int .i64 M.al) := Bk.cell (HKY.out) 8
      have c9 : y.cell? ⟨mb, 9, none⟩ = some (.int .i64 M.ex) := Bk.cell (HKY.out) 9
      have c10 : y.cell? ⟨mb, 10, none⟩ = some (.slice MA.ba.1 M.ba.length MA.ba.2) := Bk.cell (HKY.out) 10
      have c11 : y.cell? ⟨mb, 11, none⟩ = some (.slice (some ⟨ob, 0, none⟩) 1 1) := Bk.cell (HKY.out) 11
      have HOW' : Hid (OwnMs B0 (ROd w1 B0) ov ps y) := Lib.hid (HOW.out.below HR.out HBY.out)
      have HSZ : Hid (B0 ≤ y.heap.size ∧ ps.length ≤ 1000) := Lib.hid ⟨by have := HBE.out; have := HBR.out.size; have := HBY.out.size; omega, by have := HLP.out; have := HL30.out; omega⟩
      go_wp2_with ((at_builtin; refine wpList_append_row encMo_len encMo_one rfl _ _ 22 rfl B0 54 _ 208 Tryz.underlying22 moInfo rfl (by decide) _ ps (orM (1 + fx) (1 + tt) M, { MA with od := (some ⟨ob, 0, none⟩, 1) }) rfl (HOW'.out.1.alloc _) y.heap.size 1 rfl (newsMo (orM (1 + fx) (1 + tt) M, { MA with od := (some ⟨ob, 0, none⟩, 1) }) y) (by have := HSZ.out.2; omega) (by decide) (Nat.le_trans HSZ.out.1 (Grows.of_alloc y _).size) ?_))
      intro v9 w9 hown9 hgr9
      have hbl : Below y.heap.size y (y.alloc (.cells (moC (orM (1 + fx) (1 + tt) M) { MA with od := (some ⟨ob, 0, none⟩, 1) }) 54)) := bAlloc _ _
      have hoy := HOW'.out.below HR.out hbl
      have HB9 : Hid (Below w1.heap.size w1 w9) := Lib.hid (belOwn (bTrans (bTrans HBR.out HBY.out) hbl) (Nat.le_of_eq HBE.out) (Nat.le_refl _) hoy.1 hgr9)
      have HO9 : Hid (OwnMs B0 (ROd w1 B0) v9 (ps ++ [(orM (1 + fx) (1 + tt) M, { MA with od := (some ⟨ob, 0, none⟩, 1) })]) w9) := Lib.hid (hoy.snoc HR.out (HR.out.bel _ _ _ hbl HRX.out) hown9 hgr9)
      have HP9 : Hid ((ps ++ [(orM (1 + fx) (1 + tt) M, { MA with od := (some ⟨ob, 0, none⟩, 1) })]).map Prod.fst = (l.take (n + 1)).map fun p => orM (1 + fx) (1 + tt) p.1) := Lib.hid (by rw [List.map_append, HPS.out, HXL.out.2]; rfl)
      clear hown9 hgr9 hbl hoy c0 c1 c2 c3 c4 c5 c6 c7 c8 c9 c10 c11
      go_wp2
      go_roundg (l.length - (n + 1))
      case measure => omega
      case rel => exact ⟨_, n + 1, _, rfl, by omega, by go_num, HP9, HO9, HB9⟩
    · obtain rfl : n = l.length := by omega
      obtain ⟨A7, c7, rfl, hsm7, _⟩ := HOW.out.row HR.out
      have HPM : Hid (ps.map Prod.fst = (l.map fun p => orM (1 + fx) (1 + tt) p.1)) := Lib.hid (by rw [HPS.out, List.take_length])
      have HBW : Hid (Below w.heap.size w wr) := Lib.hid (bTrans HB1.out HBR.out)
      obtain ⟨⟨slR, SR, eR⟩, hRR⟩ : ∃ R, foldM (ps.map Prod.fst) = R := ⟨_, rfl⟩
      have HFO : Hid (Calls Tryz.prog 11 #[.slice A7 ps.length c7] wr fun e w' => ResF (slR, SR, eR) 1572864 wr e w') := Lib.hid (by rw [← hRR]; exact yr_Fold ps A7 c7 wr (by have := HLP.out; have := HL30.out; omega) hsm7 (HT.out.below HBW.out).tb)
      have HNP : Hid (eR = 0 → (∀ x ∈ slR, OrdP (1 + fx) x) ∧ sum5 slR ≤ 1 + tt) := Lib.hid (fun he => by
        have h := ord_fold (F := 1 + fx) (T := 1 + tt) (by omega) (by omega) (ps.map Prod.fst) (by rw [HPM.out]; intro M hM; obtain ⟨p, _, rfl⟩ := List.mem_map.1 hM; rfl) (by rw [hRR]; exact he)
        rw [hRR] at h
        exact h)
      have HCN : Hid (slR.length ≤ 30) := Lib.hid (by
        have hl7 : (ps.map Prod.fst).length ≤ 30 := by rw [List.length_map]; have := HLP.out; have := HL30.out; omega
        have h := resGo_cnt Ste.none (ps.map Prod.fst) Ste.none []
        have e : foldM (ps.map Prod.fst) = resGo Ste.none Ste.none [] (ps.map Prod.fst) := by unfold foldM resM; rw [if_neg (by omega)]
        rw [← e, hRR] at h
        simp only [List.length_nil] at h
        omega)
      clear hRR hsm7
      go_wp2_with fail
      refine HFO.out.mono ?_
      rintro e w2 ⟨⟨vb, vs, vo⟩, sv, rs, hee, hrs, hos, hst, hb2⟩
      obtain ⟨m1, h1⟩ := hst.be.form
      obtain ⟨m2, h2⟩ := hst.so.form
      obtain ⟨m3, h3⟩ := hst.od.form
      dsimp only at h1 h2 h3
      subst h1 h2 h3
      obtain ⟨A3, c3, rfl, _⟩ := own_Sl encSl_len hos.1
      replace hee : e = .returned (.tuple #[.slice A3 rs.length c3, .agg #[.int .i64 SR.y, .int .i64 SR.i, .int .i64 SR.o, .map m1, .map m2, .int .i64 SR.tb, .int .i64 SR.tt, .map m3], .int .i64 eR]) := hee
      subst hee
      obtain ⟨tb4, htb⟩ : ∃ x, w2.heap.size = x := ⟨_, rfl⟩
      obtain ⟨w3, hw3⟩ : ∃ x, w2.alloc (.cells #[.int .i64 SR.y, .int .i64 SR.i, .int .i64 SR.o, .map m1, .map m2, .int .i64 SR.tb, .int .i64 SR.tt, .map m3] 33) = x := ⟨_, rfl⟩
      have g3 : Below w2.heap.size w2 w3 := by rw [← hw3]; exact bAlloc _ _
      have HOS : Hid (rs.map Prod.fst = slR ∧ OwnSl wr.heap.size (.slice A3 rs.length c3) rs w3) := Lib.hid ⟨hrs, hos.below g3⟩
      have HB3 : Hid (Below w.heap.size w w3) := Lib.hid (bTrans HBW.out (bTrans hb2 g3))
      have HWF : Hid (w2.heap.size = tb4 ∧ w2.alloc (.cells #[.int .i64 SR.y, .int .i64 SR.i, .int .i64 SR.o, .map m1, .map m2, .int .i64 SR.tb, .int .i64 SR.tt, .map m3] 33) = w3) := Lib.hid ⟨htb, hw3⟩
      clear hrs hos hst hb2 g3 htb hw3 HFO
      go_upto_region 11 with fail
      rw [HWF.out.2, HWF.out.1]
      clear HWF
      by_cases hf : eR = 0
      case neg =>
        have d1 : (eR != 0) = true := by simpa using hf
        clear hf
        go_wp2_with (go_at_call 10; refine (HAW.out _ HB3.out).mono ?_; rintro e w6 ⟨rfl, hb6⟩)
        go_ret
        exact ⟨rfl, bTrans HB3.out hb6⟩
      case pos =>
      subst hf
      obtain ⟨hop, hs5⟩ := HNP.out rfl
      have HOP := Lib.hid hop
      have HS5 := Lib.hid hs5
      have d0 : ((0 : Int) != 0) = false := rfl
      have HLR : Hid (rs.length ≤ 30) := Lib.hid (by
        have h := HCN.out
        rw [← HOS.out.1, List.length_map] at h
        omega)
      have hlr := HLR.out
      have hlr2 : rs.length ≤ 1000000 := by omega
      clear hop hs5 HNP HCN
      go_wp2_with fail
      go_loopg [13, 14] rs.length (fun kk pv iv wq => ∃ (n : Nat) (c : Int), n + kk = rs.length ∧ iv = .int .i64 n ∧ pv = .int .i64 c ∧ 0 ≤ c ∧ c ≤ (n * 448) * 4294967296 ∧ Hid (c + sum5 (slR.drop n) = sum5 slR) ∧ Hid (Below w3.heap.size w3 wq))
      case atStart => exact ⟨0, 0, Nat.zero_add _, rfl, rfl, by simp, by simp, Lib.hid (by rw [Int.zero_add]; rfl), Lib.hid (Below.refl _ _)⟩
      case round =>
        obtain ⟨n, c0, hn1, rfl, rfl, hc0, hc1, HA, HBQ⟩ := hrel
        rename World => wq
        by_cases hlt : n < rs.length
        · obtain ⟨g3, cap3, he3, _, hrw3⟩ := HOS.out.2.1.row encSl_len (by intro h; simp [h] at hlt)
          have ha3 : A3 = some ⟨g3, 0, none⟩ := by injection he3
          clear he3
          subst ha3
          obtain ⟨⟨⟨y5, i5, l5⟩, A5, c5⟩, hx3⟩ : ∃ x, rs[n]? = some x := ⟨_, List.getElem?_eq_getElem hlt⟩
          have hsx : slR[n]? = some (y5, i5, l5) := by rw [← HOS.out.1, List.getElem?_map, hx3]; rfl
          have HOX : Hid (OrdP (1 + fx) (y5, i5, l5)) := Lib.hid (HOP.out _ (List.mem_of_getElem? hsx))
          have h448 : l5.length ≤ 448 := (slpE_fit HOX.out.1).1
          have HA2 : Hid (c0 + sumQ 5 5 (l5.drop 0) + sum5 (slR.drop (n + 1)) = sum5 slR) := Lib.hid (by
            have h := HA.out
            rw [drop_get hsx] at h
            have h2 : sum5 ((y5, i5, l5) :: slR.drop (n + 1)) = sumQ 5 5 l5 + sum5 (slR.drop (n + 1)) := rfl
            rw [h2] at h
            rw [List.drop_zero]
            omega)
          have HKX : Hid (∀ W, Below w3.heap.size w3 W → W.cell? ⟨g3, n * 3 + 2, none⟩ = some (.slice A5 l5.length c5)) := Lib.hid (fun W hW => by
            have r3 := hrw3.below hW hrw3.lt
            exact r3.cell hx3 (j := 2) rfl)
          have HSL : Hid (∀ W, Below w3.heap.size w3 W → Sl encLi 3 W W.heap.size A5 l5) := Lib.hid (fun W hW => ownSlc encLi_len ((HOS.out.2.below hW).2 _ (List.mem_of_getElem? hx3)))
          clear hx3 hrw3 hsx HA
          go_wp2_with fail
          go_loopg [13, 15] l5.length (fun kk pv kv wz => ∃ (m : Nat) (c : Int), m + kk = l5.length ∧ kv = .int .i64 m ∧ pv = .int .i64 c ∧ 0 ≤ c ∧ c ≤ (n * 448 + m) * 4294967296 ∧ Hid (c + sumQ 5 5 (l5.drop m) + sum5 (slR.drop (n + 1)) = sum5 slR) ∧ Hid (Below w3.heap.size w3 wz))
          case atStart => exact ⟨0, c0, Nat.zero_add _, rfl, rfl, hc0, by simpa using hc1, HA2, HBQ⟩
          case round =>
            obtain ⟨m, c, hm1, rfl, rfl, hcc0, hcc1, HC, HBZ⟩ := hrel
            rename World => wz
            have q2 := HKX.out wz HBZ.out
            by_cases hlm : m < l5.length
            · obtain ⟨b, off, rfl, hB, hc⟩ := (HSL.out wz HBZ.out) (by intro h; simp [h] at hlm)
              obtain ⟨⟨p, s, v⟩, hx⟩ : ∃ x, l5[m]? = some x := ⟨_, List.getElem?_eq_getElem hlm⟩
              have C0 : wz.cell? ⟨b, off + m * 3, none⟩ = some (.int .i64 p) := by simpa using hc m _ hx 0 _ rfl
              have C1 : wz.cell? ⟨b, off + m * 3 + 1, none⟩ = some (.string s) := hc m _ hx 1 _ rfl
              have C2 : wz.cell? ⟨b, off + m * 3 + 2, none⟩ = some (.int .i64 v) := hc m _ hx 2 _ rfl
              have HOZ : Hid (p = 5 → s = cLoan ∧ 0 ≤ v ∧ v ≤ 1 + fx) := Lib.hid (HOX.out.2.2 _ (List.mem_of_getElem? hx))
              have HD : Hid (c + ((if 5 ≤ p ∧ p ≤ 5 then v else 0) + sumQ 5 5 (l5.drop (m + 1))) + sum5 (slR.drop (n + 1)) = sum5 slR) := Lib.hid (by
                have h := HC.out
                rw [drop_get hx] at h
                exact h)
              obtain ⟨fb, hfb⟩ : ∃ y, wz.heap.size = y := ⟨_, rfl⟩
              obtain ⟨wb, hwb⟩ : ∃ y, wz.alloc (.cells #[.int .i64 p, .string s, .int .i64 v] 44) = y := ⟨_, rfl⟩
              have hb1 : Bk fb 44 #[.int .i64 p, .string s, .int .i64 v] wb := by rw [← hwb, ← hfb]; exact Bk.new _ _ _
              have HB9 : Hid (Below w3.heap.size w3 wb) := Lib.hid (by rw [← hwb]; exact bTrans HBZ.out (bAlloc wz _))
              have D0 : wb.cell? ⟨fb, 0, none⟩ = some (.int .i64 p) := hb1.cell 0
              have D1 : wb.cell? ⟨fb, 1, none⟩ = some (.string s) := hb1.cell 1
              have D2 : wb.cell? ⟨fb, 2, none⟩ = some (.int .i64 v) := hb1.cell 2
              have HWF := Lib.hid (And.intro hfb hwb)
              clear hc hx HC hfb hwb hb1
              go_upto_region 21 with fail
              rw [HWF.out.2, HWF.out.1]
              clear HWF C0 C1 C2 q2
              by_cases h5 : p = 5
              · obtain ⟨hs, hv0, hv1⟩ := HOZ.out h5
                have hs2 : s = { data := #[108, 111, 97, 110] } := hs
                have HE : Hid (c + v + sumQ 5 5 (l5.drop (m + 1)) + sum5 (slR.drop (n + 1)) = sum5 slR) := Lib.hid (by have h := HD.out; rw [if_pos (by omega)] at h; omega)
                have w1' : IntKind.i64.wrap (c + v) = c + v := by rw [IntKind.wrap_i64]; omega
                have e1 : decide (v < 0) = false := decide_eq_false (by omega)
                have e2 : decide (1 + fx < v) = false := decide_eq_false (by omega)
                clear hs HD HOZ
                subst hs2 h5
                go_wp2
                go_roundg (l5.length - (m + 1))
                case measure => omega
                case rel => exact ⟨m + 1, c + v, by omega, by go_num, rfl, by omega, by omega, HE, HB9⟩
              · have d5 : (p == 5) = false := beq_eq_false_iff_ne.2 h5
                have HE : Hid (c + sumQ 5 5 (l5.drop (m + 1)) + sum5 (slR.drop (n + 1)) = sum5 slR) := Lib.hid (by have h := HD.out; rw [if_neg (by omega)] at h; omega)
                clear h5 HD HOZ
                go_wp2
                go_roundg (l5.length - (m + 1))
                case measure => omega
                case rel => exact ⟨m + 1, c, by omega, by go_num, rfl, by omega, by omega, HE, HB9⟩
            · obtain rfl : m = l5.length := by omega
              have HE : Hid (c + sum5 (slR.drop (n + 1)) = sum5 slR) := Lib.hid (by have h := HC.out; rw [List.drop_length] at h; have : sumQ 5 5 [] = 0 := rfl; omega)
              clear HC
              go_wp2
              go_roundg (rs.length - (n + 1))
              case measure => omega
              case rel => exact ⟨n + 1, c, by omega, by go_num, rfl, by omega, by omega, HE, HBZ⟩
        · obtain rfl : n = rs.length := by omega
          have HBF : Hid (Below w.heap.size w wq) := Lib.hid (bTrans HB3.out HBQ.out)
          have hle : decide (c0 ≤ 1 + tt) = true := decide_eq_true (by
            have h := HA.out
            rw [List.drop_eq_nil_of_le (by rw [← HOS.out.1, List.length_map]; exact Nat.le_refl _)] at h
            have h0 : sum5 [] = 0 := rfl
            have := HS5.out
            omega)
          clear HA
          go_wp2_with (go_at_call 10; refine (HAW.out _ HBF.out).mono ?_; rintro e w6 ⟨rfl, hb6⟩)
          go_ret
          exact ⟨rfl, bTrans HBF.out hb6⟩
end Go.Proofs.YtgepbkldgnjpfaaGreatDoor
