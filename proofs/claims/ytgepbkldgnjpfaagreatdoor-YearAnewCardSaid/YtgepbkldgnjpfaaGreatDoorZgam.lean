/- Out of: Yt2. -/
import Derived.Test.YtgepbkldgnjpfaaGreatDoorZgai
import Derived.Test.YtgepbkldgnjpfaaGreatDoorZgal
/- year's laws: the walk of YearAnew (gen/mkyt2.py). -/
namespace Go.Proofs.YtgepbkldgnjpfaaGreatDoor
open Go.RowKit Go.Sort Go.BigFrame Go.Maps

theorem takeSucc {α β : Type} {l : List α} {n : Nat} {x : α} (f : α → β) (h : l[n]? = some x) : (l.take (n + 1)).map f = (l.take n).map f ++ [f x] := by
  rw [List.take_add_one, h]
  simp
set_option maxHeartbeats 4000000 in
set_option maxRecDepth 100000 in
theorem lw_YearAnew (l : List (Mon × MoA)) (A : Option Addr) (cap : Nat) (w : World) (hl : l.length ≤ 140737488355328) (hs : InMo w A l) (hT : TbP w) :
    Calls Tryz.prog 6 #[.slice A l.length cap] w fun e w' => e = .returned (.bool true) ∧ Below w.heap.size w w' := by
  obtain ⟨G, hG⟩ : ∃ g, greatB (l.map Prod.fst) = g := ⟨_, rfl⟩
  have HGR : Hid (Calls Tryz.prog 9 #[.slice A l.length cap] w fun e w' => e = .returned (.bool G) ∧ Below w.heap.size w w') := Lib.hid (by rw [← hG]; exact la_greatI l A cap w hl hs)
  have HG := Lib.hid hG
  have HS := Lib.hid hs
  have HT := Lib.hid hT
  have HAW : Hid (∀ W, Below w.heap.size w W → Calls Tryz.prog 10 #[] W fun e w' => e = .returned (.bool true) ∧ Below W.heap.size W w') := Lib.hid (fun W hW => la_awake28 W (hT.below hW))
  clear hG hs hT
  go_enter Tryz.func6, Tryz.ntmps6
  go_wp2_with fail
  refine HGR.out.mono ?_
  rintro e w1 ⟨rfl, hb1⟩
  have HB1 := Lib.hid hb1
  cases G with
  | true =>
    go_wp2_with fail
    refine (HAW.out _ HB1.out).mono ?_
    rintro e w2 ⟨rfl, hb2⟩
    go_wp2
    go_ret
    exact ⟨rfl, bTrans HB1.out hb2⟩
  | false =>
  obtain ⟨hsm, hl30⟩ := (HS.out.below hb1).ok HG.out
  have HSM := Lib.hid hsm
  have HL30 := Lib.hid hl30
  clear hb1 hsm
  obtain ⟨B0, hB0⟩ : ∃ x, w1.heap.size = x := ⟨_, rfl⟩
  have HBE := Lib.hid hB0
  clear hB0
  have hR : MoR B0 (RNo w1) := moRNo w1 B0 (Nat.le_of_eq HBE.out)
  have HR := Lib.hid hR
  clear hR
  go_wp2_with fail
  go_loopg [3, 4] l.length (fun kk ov iv wr => ∃ (sv : Value) (n : Nat) (ps : List (Mon × MoA)), sv = ov ∧ n + kk = l.length ∧ iv = .int .i64 n ∧ Hid (ps.map Prod.fst = (l.take n).map fun p => noOd p.1) ∧ Hid (OwnMs B0 (RNo w1) ov ps wr) ∧ Hid (Below w1.heap.size w1 wr))
  case atStart => exact ⟨_, 0, [], rfl, Nat.zero_add _, rfl, Lib.hid rfl, Lib.hid OwnMs.nil, Lib.hid (Below.refl _ _)⟩
  case round =>
    obtain ⟨ov, n, ps, rfl, hn1, rfl, HPS, HOW, HBR⟩ := hrel
    have HLP : Hid (ps.length = n) := Lib.hid (by have h := congrArg List.length HPS.out; rw [List.length_map, List.length_map, List.length_take] at h; omega)
    by_cases hlt : n < l.length
    · obtain ⟨b, off, rfl, hB, hc⟩ := (HSM.out.1) (by intro h; simp [h] at hlt)
      obtain ⟨⟨M, MA⟩, hx⟩ : ∃ x, l[n]? = some x := ⟨_, List.getElem?_eq_getElem hlt⟩
      have HM : Hid (MoOk M MA w1) := Lib.hid (HSM.out.2 _ (List.mem_of_getElem? hx))
      have c0 : wr.cell? ⟨b, off + n * 12, none⟩ = some (.int .i64 M.y) := (HBR.out.cell (p := ⟨b, off + n * 12, none⟩) hB).trans (by simpa using hc n _ hx 0 _ rfl)
      have c1 : wr.cell? ⟨b, off + n * 12 + 1, none⟩ = some (.int .i64 M.i) := (HBR.out.cell (p := ⟨b, off + n * 12 + 1, none⟩) hB).trans (hc n _ hx 1 _ rfl)
      have c2 : wr.cell? ⟨b, off + n * 12 + 2, none⟩ = some (.int .i64 M.o) := (HBR.out.cell (p := ⟨b, off + n * 12 + 2, none⟩) hB).trans (hc n _ hx 2 _ rfl)
      have c3 : wr.cell? ⟨b, off + n * 12 + 3, none⟩ = some (.slice MA.gr.1 M.gr.length MA.gr.2) := (HBR.out.cell (p := ⟨b, off + n * 12 + 3, none⟩) hB).trans (hc n _ hx 3 _ rfl)
      have c4 : wr.cell? ⟨b, off + n * 12 + 4, none⟩ = some (.slice MA.be.1 M.be.length MA.be.2) := (HBR.out.cell (p := ⟨b, off + n * 12 + 4, none⟩) hB).trans (hc n _ hx 4 _ rfl)
      have c5 : wr.cell? ⟨b, off + n * 12 + 5, none⟩ = some (.slice MA.af.1 M.af.length MA.af.2) := (HBR.out.cell (p := ⟨b, off + n * 12 + 5, none⟩) hB).trans (hc n _ hx 5 _ rfl)
      have c6 : wr.cell? ⟨b, off + n * 12 + 6, none⟩ = some (.slice MA.li.1 M.li.length MA.li.2) := (HBR.out.cell (p := ⟨b, off + n * 12 + 6, none⟩) hB).trans (hc n _ hx 6 _ rfl)
      have c7 : wr.cell? ⟨b, off + n * 12 + 7, none⟩ = some (.slice MA.sc.1 M.sc.length MA.sc.2) := (HBR.out.cell (p := ⟨b, off + n * 12 + 7, none⟩) hB).trans (hc n _ hx 7 _ rfl)
      have c8 : wr.cell? ⟨b, off + n * 12 + 8, none⟩ = some (.int .i64 M.al) := (HBR.out.cell (p := ⟨b, off + n * 12 + 8, none⟩) hB).trans (hc n _ hx 8 _ rfl)
      have c9 : wr.cell? ⟨b, off + n * 12 + 9, none⟩ = some (.int .i64 M.ex) := (HBR.out.cell (p := ⟨b, off + n * 12 + 9, none⟩) hB).trans (hc n _ hx 9 _ rfl)
      have c10 : wr.cell? ⟨b, off + n * 12 + 10, none⟩ = some (.slice MA.ba.1 M.ba.length MA.ba.2) := (HBR.out.cell (p := ⟨b, off + n * 12 + 10, none⟩) hB).trans (hc n _ hx 10 _ rfl)
      have c11 : wr.cell? ⟨b, off + n * 12 + 11, none⟩ = some (.slice MA.od.1 M.od.length MA.od.2) := (HBR.out.cell (p := ⟨b, off + n * 12 + 11, none⟩) hB).trans (hc n _ hx 11 _ rfl)
      obtain ⟨mb, hmb⟩ : ∃ y, wr.heap.size = y := ⟨_, rfl⟩
      obtain ⟨wa, hwa⟩ : ∃ y, wr.alloc (.cells #[.int .i64 M.y, .int .i64 M.i, .int .i64 M.o, .slice MA.gr.1 M.gr.length MA.gr.2, .slice MA.be.1 M.be.length MA.be.2, .slice MA.af.1 M.af.length MA.af.2, .slice MA.li.1 M.li.length MA.li.2, .slice MA.sc.1 M.sc.length MA.sc.2, .int .i64 M.al, .int .i64 M.ex, .slice MA.ba.1 M.ba.length MA.ba.2, .slice MA.od.1 M.od.length MA.od.2] 54) = y := ⟨_, rfl⟩
      have hkm : Bk mb 54 (moC M MA) wa := by rw [← hwa, ← hmb]; exact Bk.new _ _ _
      have hba : Below wr.heap.size wr wa := by rw [← hwa]; exact bAlloc wr _
      have HWF := Lib.hid (And.intro hmb hwa)
      have HXL : Hid ((l.take (n + 1)).map (fun p => noOd p.1) = (l.take n).map (fun p => noOd p.1) ++ [noOd M]) := Lib.hid (takeSucc _ hx)
      clear hc hx hmb hwa
      go_upto_region 8 with fail
      rw [HWF.out.2, HWF.out.1]
      clear c0 c1 c2 c3 c4 c5 c6 c7 c8 c9 c10 c11
      obtain ⟨y, hy⟩ : ∃ y, wa.setCell ⟨mb, 11, none⟩ (.slice none 0 0) = y := ⟨_, rfl⟩
      have HKY : Hid (Bk mb 54 (moC (noOd M) (noOdA MA)) y) := Lib.hid (by rw [← hy]; exact hkm.set_ 11 _)
      have hkb11 := hkm.cell 11
      have hfz : wa.frozen? ⟨mb, 11, none⟩ = false := hkm.frozen 11
      have hmbe := HWF.out.1
      have HBY : Hid (Below wr.heap.size wr y) := Lib.hid (by
        rw [← hy]
        exact hba.setCell (by show wr.heap.size ≤ mb; omega) _)
      have HRX : Hid (RNo w1 (noOd M, noOdA MA) y) := Lib.hid ⟨noOd_ok HM.out, bTrans HBR.out HBY.out⟩
      have HWG := Lib.hid hy
      clear hy hkm hba hmbe HWF
      go_upto_region 9 with fail
      rw [HWG.out]
      clear HWG hkb11 hfz
      have c0 : y.cell? ⟨mb, 0, none⟩ = some (.int .i64 M.y) := Bk.cell (HKY.out) 0
      have c1 : y.cell? ⟨mb, 1, none⟩ = some (.int .i64 M.i) := Bk.cell (HKY.out) 1
      have c2 : y.cell? ⟨mb, 2, none⟩ = some (.int .i64 M.o) := Bk.cell (HKY.out) 2
      have c3 : y.cell? ⟨mb, 3, none⟩ = some (.slice MA.gr.1 M.gr.length MA.gr.2) := Bk.cell (HKY.out) 3
      have c4 : y.cell? ⟨mb, 4, none⟩ = some (.slice MA.be.1 M.be.length MA.be.2) := Bk.cell (HKY.out) 4
      have c5 : y.cell? ⟨mb, 5, none⟩ = some (.slice MA.af.1 M.af.length MA.af.2) := Bk.cell (HKY.out) 5
      have c6 : y.cell? ⟨mb, 6, none⟩ = some (.slice MA.li.1 M.li.length MA.li.2) := Bk.cell (HKY.out) 6
      have c7 : y.cell? ⟨mb, 7, none⟩ = some (.slice MA.sc.1 M.sc.length MA.sc.2) := Bk.cell (HKY.out) 7
      have c8 : y.cell? ⟨mb, 8, none⟩ = some (.int .i64 M.al) := Bk.cell (HKY.out) 8
      have c9 : y.cell? ⟨mb, 9, none⟩ = some (.int .i64 M.ex) := Bk.cell (HKY.out) 9
      have c10 : y.cell? ⟨mb, 10, none⟩ = some (.slice MA.ba.1 M.ba.length MA.ba.2) := Bk.cell (HKY.out) 10
      have c11 : y.cell? ⟨mb, 11, none⟩ = some (.slice none 0 0) := Bk.cell (HKY.out) 11
      have HOW' : Hid (OwnMs B0 (RNo w1) ov ps y) := Lib.hid (HOW.out.below HR.out HBY.out)
      have HSZ : Hid (B0 ≤ y.heap.size ∧ ps.length ≤ 1000) := Lib.hid ⟨by have := HBE.out; have := HBR.out.size; have := HBY.out.size; omega, by have := HLP.out; have := HL30.out; omega⟩
      go_wp2_with ((at_builtin; refine wpList_append_row encMo_len encMo_one rfl _ _ 22 rfl B0 54 _ 208 Tryz.underlying22 moInfo rfl (by decide) _ ps (noOd M, noOdA MA) rfl (HOW'.out.1.alloc _) y.heap.size 1 rfl (newsMo (noOd M, noOdA MA) y) (by have := HSZ.out.2; omega) (by decide) (Nat.le_trans HSZ.out.1 (Grows.of_alloc y _).size) ?_))
      intro v9 w9 hown9 hgr9
      have hbl : Below y.heap.size y (y.alloc (.cells (moC (noOd M) (noOdA MA)) 54)) := bAlloc _ _
      have hoy := HOW'.out.below HR.out hbl
      have HB9 : Hid (Below w1.heap.size w1 w9) := Lib.hid (belOwn (bTrans (bTrans HBR.out HBY.out) hbl) (Nat.le_of_eq HBE.out) (Nat.le_refl _) hoy.1 hgr9)
      have HO9 : Hid (OwnMs B0 (RNo w1) v9 (ps ++ [(noOd M, noOdA MA)]) w9) := Lib.hid (hoy.snoc HR.out (HR.out.bel _ _ _ hbl HRX.out) hown9 hgr9)
      have HP9 : Hid ((ps ++ [(noOd M, noOdA MA)]).map Prod.fst = (l.take (n + 1)).map fun p => noOd p.1) := Lib.hid (by rw [List.map_append, HPS.out, HXL.out]; rfl)
      clear hown9 hgr9 hbl hoy c0 c1 c2 c3 c4 c5 c6 c7 c8 c9 c10 c11
      go_wp2
      go_roundg (l.length - (n + 1))
      case measure => omega
      case rel => exact ⟨_, n + 1, _, rfl, by omega, by go_num, HP9, HO9, HB9⟩
    · obtain rfl : n = l.length := by omega
      have hrow := HOW.out.row HR.out
      obtain ⟨A7, c7, rfl, hsm7, hcc, hcm, hA0⟩ := hrow
      have HCAP : Hid (ps.length ≤ c7 ∧ c7 ≤ 9223372036854775807 ∧ (A7 = none → c7 = 0)) := Lib.hid ⟨hcc, hcm, hA0⟩
      have HSM7 := Lib.hid hsm7
      have HL30P : Hid (ps.length ≤ 30) := Lib.hid (by have := HLP.out; have := HL30.out; omega)
      have HPN : Hid (∀ M ∈ ps.map Prod.fst, M.od = []) := Lib.hid (by rw [HPS.out, List.take_length]; intro M hM; obtain ⟨p, _, rfl⟩ := List.mem_map.1 hM; rfl)
      have HBW : Hid (Below w.heap.size w wr) := Lib.hid (bTrans HB1.out HBR.out)
      obtain ⟨⟨slR, SR, eR⟩, hRR⟩ : ∃ R, foldM (ps.map Prod.fst) = R := ⟨_, rfl⟩
      have HRR := Lib.hid hRR
      have HFO : Hid (Calls Tryz.prog 11 #[.slice A7 ps.length c7] wr fun e w' => ResF (slR, SR, eR) 1572864 wr e w') := Lib.hid (by rw [← hRR]; exact yr_Fold ps A7 c7 wr (by have := HL30P.out; omega) hsm7 (HT.out.below HBW.out).tb)
      clear hRR hsm7 hcc hcm hA0 HLP
      go_wp2_with fail
      refine HFO.out.mono ?_
      rintro e w2 ⟨⟨vb, vs, vo⟩, sv, rs, hee, hrs, hos, hst, hb2⟩
      obtain ⟨m1, h1⟩ := hst.be.form
      obtain ⟨m2, h2⟩ := hst.so.form
      obtain ⟨m3, h3⟩ := hst.od.form
      dsimp only at h1 h2 h3
      subst h1 h2 h3
      obtain ⟨A3, c3, rfl, _⟩ := own_Sl encSl_len hos.1
      replace hee : e = .returned (.tuple #[.slice A3 rs.length c3, .agg #[.int .i64 SR.y, .int .i64 SR.i, .int .i64 SR.o, .map m1, .map m2, .int .i64 SR.tb, .int .i64 SR.tt, .map m3], .int .i64 eR]) := hee
      subst hee
      obtain ⟨tb7, htb⟩ : ∃ x, w2.heap.size = x := ⟨_, rfl⟩
      obtain ⟨w3, hw3⟩ : ∃ x, w2.alloc (.cells #[.int .i64 SR.y, .int .i64 SR.i, .int .i64 SR.o, .map m1, .map m2, .int .i64 SR.tb, .int .i64 SR.tt, .map m3] 33) = x := ⟨_, rfl⟩
      have g3 : Below w2.heap.size w2 w3 := by rw [← hw3]; exact bAlloc _ _
      have HK7 : Hid (Bk tb7 33 #[.int .i64 SR.y, .int .i64 SR.i, .int .i64 SR.o, .map m1, .map m2, .int .i64 SR.tb, .int .i64 SR.tt, .map m3] w3) := Lib.hid (by rw [← hw3, ← htb]; exact Bk.new _ _ _)
      have HOS : Hid (rs.map Prod.fst = slR ∧ OwnSl wr.heap.size (.slice A3 rs.length c3) rs w3) := Lib.hid ⟨hrs, hos.below g3⟩
      have HSR : Hid (StOk SR ⟨.map m1, .map m2, .map m3⟩ 1572864 w3) := Lib.hid (hst.below g3)
      have HBS : Hid (Below wr.heap.size wr w3) := Lib.hid (bTrans hb2 g3)
      have HWF : Hid (w2.heap.size = tb7 ∧ w2.alloc (.cells #[.int .i64 SR.y, .int .i64 SR.i, .int .i64 SR.o, .map m1, .map m2, .int .i64 SR.tb, .int .i64 SR.tt, .map m3] 33) = w3) := Lib.hid ⟨htb, hw3⟩
      clear hrs hos hst hb2 g3 htb hw3 HFO
      go_upto_region 11 with fail
      rw [HWF.out.2, HWF.out.1]
      clear HWF
      have HB3 : Hid (Below w.heap.size w w3) := Lib.hid (bTrans HBW.out HBS.out)
      by_cases hf : eR = 0
      case neg =>
        have d1 : (eR != 0) = true := by simpa using hf
        clear hf
        go_wp2_with (go_at_call 10; refine (HAW.out _ HB3.out).mono ?_; rintro e w6 ⟨rfl, hb6⟩)
        go_ret
        exact ⟨rfl, bTrans HB3.out hb6⟩
      case pos =>
      subst hf
      have HOK : Hid ((foldM (ps.map Prod.fst)).2.2 = 0 ∧ (foldM (ps.map Prod.fst)).1 = slR ∧ (foldM (ps.map Prod.fst)).2.1 = SR) := Lib.hid (by rw [HRR.out]; exact ⟨rfl, rfl, rfl⟩)
      have HLN : Hid (slR.length = ps.length ∧ rs.length = ps.length) := Lib.hid (by
        have h := HOK.out.1
        have e : foldM (ps.map Prod.fst) = resGo Ste.none Ste.none [] (ps.map Prod.fst) := by unfold foldM resM; rw [if_neg (by rw [List.length_map]; have := HL30P.out; omega)]
        rw [e] at h
        have h2 := (resGo_ends Ste.none (ps.map Prod.fst) Ste.none [] HPN.out rfl h).2.2
        rw [← e, HOK.out.2.1] at h2
        simp only [List.length_nil, List.length_map] at h2
        have h3 := HOS.out.1
        rw [← h3, List.length_map] at h2 ⊢
        omega)
      have HSMS : Hid (SlMo w3 A7 ps) := Lib.hid (HSM7.out.below HBS.out)
      have d0 : ((0 : Int) != 0) = false := rfl
      clear HRR
      go_wp2_with fail
      go_loopg [9, 10] (ps.length + 1) (fun kk fv iv wq => ∃ (n f : Nat), n + kk = ps.length + 1 ∧ n ≤ ps.length ∧ iv = .int .i64 n ∧ fv = .int .i64 f ∧ Hid (f ≤ n ∧ (f < n ∨ n = 0) ∧ (∀ j M M', f ≤ j → j < n → (ps.map Prod.fst)[j]? = some M → (ps.map Prod.fst)[f]? = some M' → M.y = M'.y) ∧ (f = 0 ∨ ∃ M M', (ps.map Prod.fst)[f - 1]? = some M ∧ (ps.map Prod.fst)[f]? = some M' ∧ M.y ≠ M'.y)) ∧ Hid (Below w3.heap.size w3 wq))
      case atStart => exact ⟨0, 0, Nat.zero_add _, Nat.zero_le _, rfl, rfl, Lib.hid ⟨Nat.le_refl _, .inr rfl, fun j _ _ h1 h2 => absurd h2 (Nat.not_lt_zero _), .inl rfl⟩, Lib.hid (Below.refl _ _)⟩
      case round =>
        obtain ⟨n, f, hn1, hn2, rfl, rfl, HFN, HBZ⟩ := hrel
        rename World => wq
        have hle : decide ((n : Int) ≤ ps.length) = true := decide_eq_true (by omega)
        have hf1 := HFN.out.1
        have hp30 := HL30P.out
        go_upto_region 17 with fail
        go_cut [64] from 48 to 63 (fun a wz => ∃ Bq : Bool, a = .bool Bq ∧ Hid ((Bq = true → n < ps.length ∧ ∀ M M', (ps.map Prod.fst)[n]? = some M → (ps.map Prod.fst)[f]? = some M' → M.y = M'.y) ∧ (Bq = false → n = ps.length ∨ ∃ M M', (ps.map Prod.fst)[n]? = some M ∧ (ps.map Prod.fst)[f]? = some M' ∧ M.y ≠ M'.y)) ∧ Hid (Below wq.heap.size wq wz))
        case first =>
          by_cases hlt : n < ps.length
          · obtain ⟨g7, off, rfl, hg7, hc7⟩ := HSMS.out.1 (by intro h; simp [h] at hlt)
            obtain ⟨pn, hpn⟩ : ∃ x, ps[n]? = some x := ⟨_, List.getElem?_eq_getElem hlt⟩
            obtain ⟨pf, hpf⟩ : ∃ x, ps[f]? = some x := ⟨_, List.getElem?_eq_getElem (by omega)⟩
            obtain ⟨yn, hyn⟩ : ∃ x, pn.1.y = x := ⟨_, rfl⟩
            obtain ⟨yf, hyf⟩ : ∃ x, pf.1.y = x := ⟨_, rfl⟩
            have HKY : Hid (∀ W, Below wq.heap.size wq W → W.cell? ⟨g7, off + n * 12, none⟩ = some (.int .i64 yn) ∧ W.cell? ⟨g7, off + f * 12, none⟩ = some (.int .i64 yf)) := Lib.hid (fun W hW => by
              have hbw := bTrans HBZ.out hW
              refine ⟨(hbw.cell (p := ⟨g7, off + n * 12, none⟩) hg7).trans ?_, (hbw.cell (p := ⟨g7, off + f * 12, none⟩) hg7).trans ?_⟩
              · rw [← hyn]; simpa using hc7 n _ hpn 0 _ rfl
              · rw [← hyf]; simpa using hc7 f _ hpf 0 _ rfl)
            obtain ⟨Bq, hBq⟩ : ∃ x, (yn == yf) = x := ⟨_, rfl⟩
            have HBQ := Lib.hid hBq
            have mn : (ps.map Prod.fst)[n]? = some pn.1 := by rw [List.getElem?_map, hpn]; rfl
            have mf : (ps.map Prod.fst)[f]? = some pf.1 := by rw [List.getElem?_map, hpf]; rfl
            have HBF : Hid ((Bq = true → n < ps.length ∧ ∀ M M', (ps.map Prod.fst)[n]? = some M → (ps.map Prod.fst)[f]? = some M' → M.y = M'.y) ∧ (Bq = false → n = ps.length ∨ ∃ M M', (ps.map Prod.fst)[n]? = some M ∧ (ps.map Prod.fst)[f]? = some M' ∧ M.y ≠ M'.y)) := Lib.hid ⟨fun hb => ⟨hlt, fun M M' h1 h2 => by
              rw [mn] at h1
              rw [mf] at h2
              cases h1
              cases h2
              rw [hb] at hBq
              rw [hyn, hyf]
              exact beq_iff_eq.1 hBq⟩, fun hb => .inr ⟨_, _, mn, mf, by
              rw [hb] at hBq
              rw [hyn, hyf]
              exact beq_eq_false_iff_ne.1 hBq⟩⟩
            have HDL : Hid (decide ((n : Int) < ps.length) = true) := Lib.hid (decide_eq_true (by omega))
            have HIX : Hid (n < ps.length ∧ f < ps.length) := Lib.hid ⟨hlt, by omega⟩
            clear hBq mn mf hpn hpf hyn hyf hc7
            refine wp_region_mk (SPS [(3, Sp.val (.slice (some ⟨g7, off, none⟩) ps.length c7)), (9, Sp.val (.int .i64 f)), (10, Sp.val (.int .i64 n)), (50, Sp.val (.int .i64 ps.length)), (51, Sp.val (.bool true)), (55, Sp.val (.pointer (some ⟨g7, off + n * 12, none⟩))), (56, Sp.val (.pointer (some ⟨g7, off + n * 12, none⟩))), (57, Sp.val (.int .i64 yn)), (60, Sp.val (.pointer (some ⟨g7, off + f * 12, none⟩))), (61, Sp.val (.pointer (some ⟨g7, off + f * 12, none⟩))), (62, Sp.val (.int .i64 yf)), (63, Sp.val (.bool Bq)), (64, Sp.val (.bool Bq)), (48, Sp.val (.int .i64 n)), (49, Sp.val (.slice (some ⟨g7, off, none⟩) ps.length c7)), (52, Sp.val (.bool true)), (53, Sp.val (.slice (some ⟨g7, off, none⟩) ps.length c7)), (54, Sp.val (.int .i64 n)), (58, Sp.val (.slice (some ⟨g7, off, none⟩) ps.length c7)), (59, Sp.val (.int .i64 f))]) [] [48, 49, 50, 51, 52, 53, 54, 55, 56, 57, 58, 59, 60, 61, 62, 63, 64] rfl (by rfl) (by kernel_rfl) (SPS.st _) ?_ ?_ ?_ (by decide) (by rfl) ?_ (opsK_all ?_) ?_
            · exact nil_all
            · exact nil_all
            · exact nil_all
            · exact sps_start (cons_all rfl (cons_all rfl (cons_all rfl (nil_all))))
            · refine opsK_cons (by
               exact kind_n (opOk_move rfl rfl (.inl rfl) (by kernel_rfl) (fun _ _ h => sps rfl (h.get rfl))) (by decide)) ?_
              refine opsK_cons (by
               exact kind_n (opOk_move rfl rfl (.inl rfl) (by kernel_rfl) (fun _ _ h => sps rfl (h.get rfl))) (by decide)) ?_
              refine opsK_cons (by
               exact kind_n (opOk_run rfl (.inl rfl) (fun a W hW hsp => by
                  have e49 : a.eval (.tmp 49) = .slice (some ⟨g7, off, none⟩) ps.length c7 := (hsp 49 (by kernel_rfl)).get rfl
                  have g49 : a.tmps[49]?.getD undef = .slice (some ⟨g7, off, none⟩) ps.length c7 := by (have h := e49; simp only [Act.eval, Array.getD_eq_getD_getElem?] at h; exact h)
                  refine ⟨.int .i64 ps.length, ?_, sps rfl rfl⟩
                  unfold execOp
                  go_simp)) (by decide)) ?_
              refine opsK_cons (by
               exact kind_n (opOk_run rfl (.inl rfl) (fun a W hW hsp => by
                  have e48 : a.eval (.tmp 48) = .int .i64 n := (hsp 48 (by kernel_rfl)).get rfl
                  have e50 : a.eval (.tmp 50) = .int .i64 ps.length := (hsp 50 (by kernel_rfl)).get rfl
                  have hd := HDL.out
                  refine ⟨.bool true, ?_, sps rfl rfl⟩
                  unfold execOp
                  simp only [e48, e50]
                  go_simp)) (by decide)) ?_
              refine opsK_cons (by
               exact kind_n (opOk_move rfl rfl (.inl rfl) (by kernel_rfl) (fun _ _ h => sps rfl (h.get rfl))) (by decide)) ?_
              refine opsK_cons (by
               exact kind_n (opOk_move rfl rfl (.inr ⟨4, 52, true, rfl, rfl, (by kernel_rfl), fun _ _ h => h.get rfl⟩) (by kernel_rfl) (fun _ _ h => sps rfl (h.get rfl))) (by decide)) ?_
              refine opsK_cons (by
               exact kind_n (opOk_move rfl rfl (.inr ⟨4, 52, true, rfl, rfl, (by kernel_rfl), fun _ _ h => h.get rfl⟩) (by kernel_rfl) (fun _ _ h => sps rfl (h.get rfl))) (by decide)) ?_
              refine opsK_cons (by
               exact kind_n (opOk_run rfl (.inr ⟨4, 52, true, rfl, rfl, (by kernel_rfl), fun _ _ h => h.get rfl⟩) (fun a W hW hsp => by
                  have e53 : a.eval (.tmp 53) = .slice (some ⟨g7, off, none⟩) ps.length c7 := (hsp 53 (by kernel_rfl)).get rfl
                  have e54 : a.eval (.tmp 54) = .int .i64 n := (hsp 54 (by kernel_rfl)).get rfl
                  have hd1 := HIX.out.1
                  refine ⟨.pointer (some ⟨g7, off + n * 12, none⟩), ?_, sps rfl rfl⟩
                  unfold execOp
                  simp only [e53, e54]
                  go_simp)) (by decide)) ?_
              refine opsK_cons (by
               exact kind_n (opOk_run rfl (.inr ⟨4, 52, true, rfl, rfl, (by kernel_rfl), fun _ _ h => h.get rfl⟩) (fun a W hW hsp => by
                  have e55 : a.eval (.tmp 55) = .pointer (some ⟨g7, off + n * 12, none⟩) := (hsp 55 (by kernel_rfl)).get rfl
                  refine ⟨.pointer (some ⟨g7, off + n * 12, none⟩), ?_, sps rfl rfl⟩
                  unfold execOp
                  simp only [e55]
                  go_simp)) (by decide)) ?_
              refine opsK_cons (by
               exact kind_n (opOk_load (p := ⟨g7, off + n * 12, none⟩) rfl rfl (.inr ⟨4, 52, true, rfl, rfl, (by kernel_rfl), fun _ _ h => h.get rfl⟩) (by kernel_rfl) (fun _ _ h => h.get rfl) (fun W hW => by
                  obtain ⟨q0, q1⟩ := HKY.out W hW
                  exact ⟨.int .i64 yn, by go_simp, sps rfl rfl⟩)) (by decide)) ?_
              refine opsK_cons (by
               exact kind_n (opOk_move rfl rfl (.inr ⟨4, 52, true, rfl, rfl, (by kernel_rfl), fun _ _ h => h.get rfl⟩) (by kernel_rfl) (fun _ _ h => sps rfl (h.get rfl))) (by decide)) ?_
              refine opsK_cons (by
               exact kind_n (opOk_move rfl rfl (.inr ⟨4, 52, true, rfl, rfl, (by kernel_rfl), fun _ _ h => h.get rfl⟩) (by kernel_rfl) (fun _ _ h => sps rfl (h.get rfl))) (by decide)) ?_
              refine opsK_cons (by
               exact kind_n (opOk_run rfl (.inr ⟨4, 52, true, rfl, rfl, (by kernel_rfl), fun _ _ h => h.get rfl⟩) (fun a W hW hsp => by
                  have e58 : a.eval (.tmp 58) = .slice (some ⟨g7, off, none⟩) ps.length c7 := (hsp 58 (by kernel_rfl)).get rfl
                  have e59 : a.eval (.tmp 59) = .int .i64 f := (hsp 59 (by kernel_rfl)).get rfl
                  have hd2 := HIX.out.2
                  refine ⟨.pointer (some ⟨g7, off + f * 12, none⟩), ?_, sps rfl rfl⟩
                  unfold execOp
                  simp only [e58, e59]
                  go_simp)) (by decide)) ?_
              refine opsK_cons (by
               exact kind_n (opOk_run rfl (.inr ⟨4, 52, true, rfl, rfl, (by kernel_rfl), fun _ _ h => h.get rfl⟩) (fun a W hW hsp => by
                  have e60 : a.eval (.tmp 60) = .pointer (some ⟨g7, off + f * 12, none⟩) := (hsp 60 (by kernel_rfl)).get rfl
                  refine ⟨.pointer (some ⟨g7, off + f * 12, none⟩), ?_, sps rfl rfl⟩
                  unfold execOp
                  simp only [e60]
                  go_simp)) (by decide)) ?_
              refine opsK_cons (by
               exact kind_n (opOk_load (p := ⟨g7, off + f * 12, none⟩) rfl rfl (.inr ⟨4, 52, true, rfl, rfl, (by kernel_rfl), fun _ _ h => h.get rfl⟩) (by kernel_rfl) (fun _ _ h => h.get rfl) (fun W hW => by
                  obtain ⟨q0, q1⟩ := HKY.out W hW
                  exact ⟨.int .i64 yf, by go_simp, sps rfl rfl⟩)) (by decide)) ?_
              refine opsK_cons (by
               exact kind_n (opOk_run rfl (.inr ⟨4, 52, true, rfl, rfl, (by kernel_rfl), fun _ _ h => h.get rfl⟩) (fun a W hW hsp => by
                  have e57 : a.eval (.tmp 57) = .int .i64 yn := (hsp 57 (by kernel_rfl)).get rfl
                  have e62 : a.eval (.tmp 62) = .int .i64 yf := (hsp 62 (by kernel_rfl)).get rfl
                  have hq := HBQ.out
                  refine ⟨.bool Bq, ?_, sps rfl rfl⟩
                  unfold execOp
                  simp only [e57, e62]
                  go_simp)) (by decide)) ?_
              refine opsK_cons (by
               exact kind_n (opOk_run rfl (.inl rfl) (fun a W hW hsp => by
                  have e52 : a.eval (.tmp 52) = .bool true := (hsp 52 (by kernel_rfl)).get rfl
                  have e63 : a.eval (.tmp 63) = .bool Bq := (hsp 63 (by kernel_rfl)).get rfl
                  refine ⟨.bool Bq, ?_, sps rfl rfl⟩
                  unfold execOp
                  simp only [e52, e63]
                  go_simp)) (by decide)) ?_
              exact opsK_nil
            · intro vs W hb hsp _
              have z64 := (hsp 64).get rfl
              simp only [putAll]
              go_simp
              go_step
              go_meet
              exact ⟨Bq, z64, HBF, Lib.hid hb⟩
          · have HDL : Hid (decide ((n : Int) < ps.length) = false) := Lib.hid (decide_eq_false (by omega))
            have HBF : Hid (((false = true → n < ps.length ∧ ∀ M M', (ps.map Prod.fst)[n]? = some M → (ps.map Prod.fst)[f]? = some M' → M.y = M'.y) ∧ (false = false → n = ps.length ∨ ∃ M M', (ps.map Prod.fst)[n]? = some M ∧ (ps.map Prod.fst)[f]? = some M' ∧ M.y ≠ M'.y))) := Lib.hid ⟨fun h => (by cases h), fun _ => .inl (by omega)⟩
            refine wp_region_use (SPS [(3, Sp.val (.slice A7 ps.length c7)), (9, Sp.val (.int .i64 f)), (10, Sp.val (.int .i64 n)), (50, Sp.val (.int .i64 ps.length)), (51, Sp.val (.bool false)), (48, Sp.val (.int .i64 n)), (49, Sp.val (.slice A7 ps.length c7)), (52, Sp.val (.bool false)), (64, Sp.val (.bool false))]) [] [48, 49, 50, 51, 52, 53, 54, 55, 56, 57, 58, 59, 60, 61, 62, 63, 64] rfl (by rfl) (by kernel_rfl) (SPS.st _) (by rfl) ?_ (opsK_all ?_) ?_
            · exact sps_start (cons_all rfl (cons_all rfl (cons_all rfl (nil_all))))
            · refine opsK_cons (by
               exact use_s [] (opOk_move rfl rfl (.inl rfl) (by kernel_rfl) (fun _ _ h => sps rfl (h.get rfl))) (by kernel_rfl) (by rfl)) ?_
              refine opsK_cons (by
               exact use_s [] (opOk_move rfl rfl (.inl rfl) (by kernel_rfl) (fun _ _ h => sps rfl (h.get rfl))) (by kernel_rfl) (by rfl)) ?_
              refine opsK_cons (by
               exact use_s [] (opOk_run rfl (.inl rfl) (fun a W hW hsp => by
                  have e49 : a.eval (.tmp 49) = .slice A7 ps.length c7 := (hsp 49 (by kernel_rfl)).get rfl
                  have g49 : a.tmps[49]?.getD undef = .slice A7 ps.length c7 := by (have h := e49; simp only [Act.eval, Array.getD_eq_getD_getElem?] at h; exact h)
                  refine ⟨.int .i64 ps.length, ?_, sps rfl rfl⟩
                  unfold execOp
                  go_simp)) (by kernel_rfl) (by rfl)) ?_
              refine opsK_cons (by
               exact use_s [] (opOk_run rfl (.inl rfl) (fun a W hW hsp => by
                  have e48 : a.eval (.tmp 48) = .int .i64 n := (hsp 48 (by kernel_rfl)).get rfl
                  have e50 : a.eval (.tmp 50) = .int .i64 ps.length := (hsp 50 (by kernel_rfl)).get rfl
                  have hd := HDL.out
                  refine ⟨.bool false, ?_, sps rfl rfl⟩
                  unfold execOp
                  simp only [e48, e50]
                  go_simp)) (by kernel_rfl) (by rfl)) ?_
              refine opsK_cons (by
               exact use_s [] (opOk_move rfl rfl (.inl rfl) (by kernel_rfl) (fun _ _ h => sps rfl (h.get rfl))) (by kernel_rfl) (by rfl)) ?_
              refine opsK_cons (by
               exact use_skip rfl rfl (by kernel_rfl) (by rfl) (fun _ _ h => h.get rfl) (fun d hd => by cases hd; rfl)) ?_
              refine opsK_cons (by
               exact use_skip rfl rfl (by kernel_rfl) (by rfl) (fun _ _ h => h.get rfl) (fun d hd => by cases hd; rfl)) ?_
              refine opsK_cons (by
               exact use_skip rfl rfl (by kernel_rfl) (by rfl) (fun _ _ h => h.get rfl) (fun d hd => by cases hd; rfl)) ?_
              refine opsK_cons (by
               exact use_skip rfl rfl (by kernel_rfl) (by rfl) (fun _ _ h => h.get rfl) (fun d hd => by cases hd; rfl)) ?_
              refine opsK_cons (by
               exact use_skip rfl rfl (by kernel_rfl) (by rfl) (fun _ _ h => h.get rfl) (fun d hd => by cases hd; rfl)) ?_
              refine opsK_cons (by
               exact use_skip rfl rfl (by kernel_rfl) (by rfl) (fun _ _ h => h.get rfl) (fun d hd => by cases hd; rfl)) ?_
              refine opsK_cons (by
               exact use_skip rfl rfl (by kernel_rfl) (by rfl) (fun _ _ h => h.get rfl) (fun d hd => by cases hd; rfl)) ?_
              refine opsK_cons (by
               exact use_skip rfl rfl (by kernel_rfl) (by rfl) (fun _ _ h => h.get rfl) (fun d hd => by cases hd; rfl)) ?_
              refine opsK_cons (by
               exact use_skip rfl rfl (by kernel_rfl) (by rfl) (fun _ _ h => h.get rfl) (fun d hd => by cases hd; rfl)) ?_
              refine opsK_cons (by
               exact use_skip rfl rfl (by kernel_rfl) (by rfl) (fun _ _ h => h.get rfl) (fun d hd => by cases hd; rfl)) ?_
              refine opsK_cons (by
               exact use_skip rfl rfl (by kernel_rfl) (by rfl) (fun _ _ h => h.get rfl) (fun d hd => by cases hd; rfl)) ?_
              refine opsK_cons (by
               exact use_s [] (opOk_run rfl (.inl rfl) (fun a W hW hsp => by
                  have e52 : a.eval (.tmp 52) = .bool false := (hsp 52 (by kernel_rfl)).get rfl
                  refine ⟨.bool false, ?_, sps rfl rfl⟩
                  unfold execOp
                  simp only [e52]
                  go_simp)) (by kernel_rfl) (by rfl)) ?_
              exact opsK_nil
            · intro vs W hb hsp
              have z64 := (hsp 64 (by simp)).get rfl
              simp only [putAll]
              go_simp
              go_step
              go_meet
              exact ⟨false, z64, HBF, Lib.hid hb⟩
        case rest =>
        obtain ⟨Bq, rfl, HBQ, HBX⟩ := hcut
        rename World => wz
        have HBC : Hid (Below w3.heap.size w3 wz) := Lib.hid (bTrans HBZ.out HBX.out)
        cases Bq with
        | true =>
          obtain ⟨hq1, hq2⟩ := HBQ.out.1 rfl
          have HF2 : Hid (f ≤ n + 1 ∧ (f < n + 1 ∨ n + 1 = 0) ∧ (∀ j M M', f ≤ j → j < n + 1 → (ps.map Prod.fst)[j]? = some M → (ps.map Prod.fst)[f]? = some M' → M.y = M'.y) ∧ (f = 0 ∨ ∃ M M', (ps.map Prod.fst)[f - 1]? = some M ∧ (ps.map Prod.fst)[f]? = some M' ∧ M.y ≠ M'.y)) := Lib.hid ⟨by omega, .inl (by omega), fun j M M' h1 h2 h3 h4 => by
            by_cases e : j = n
            · subst e; exact hq2 M M' h3 h4
            · exact HFN.out.2.2.1 j M M' h1 (by omega) h3 h4, HFN.out.2.2.2⟩
          clear hq2
          go_wp2
          go_roundg (ps.length + 1 - (n + 1))
          case measure => omega
          case rel => exact ⟨n + 1, f, by omega, by omega, by go_num, rfl, HF2, HBC⟩
        | false =>
        have hdif := HBQ.out.2 rfl
        have hab : f < n ∨ ps.map Prod.fst = [] := by
          rcases HFN.out.2.1 with h | h
          · exact .inl h
          · rcases hdif with h2 | ⟨M, M', h2, h3, h4⟩
            · exact .inr (by rw [List.length_eq_zero_iff.1 (show ps.length = 0 by omega)]; rfl)
            · have hf0 : f = n := by omega
              subst hf0
              rw [h2] at h3
              cases h3
              exact absurd rfl h4
        have HSEG := Lib.hid (anew_law (ps.map Prod.fst) HPN.out (by rw [List.length_map]; omega) HOK.out.1 f n hab (by rw [List.length_map]; exact hn2) HFN.out.2.2.2)
        obtain ⟨⟨slS, SS, eS⟩, hSS⟩ : ∃ R, foldM (((ps.map Prod.fst).drop f).take (n - f)) = R := ⟨_, rfl⟩
        have hseg := HSEG.out
        rw [hSS, HOK.out.2.1, HOK.out.2.2, List.length_map] at hseg
        obtain ⟨he0, hsl, hst0⟩ := hseg
        have he0' : eS = 0 := he0
        subst he0'
        have hsl' : slS = (slR.drop f).take (n - f) := hsl
        have HSLS := Lib.hid hsl'
        have HSTS : Hid (n = ps.length → SS = SR) := Lib.hid hst0
        have HFS : Hid (Calls Tryz.prog 11 #[.slice (cutA A7 f c7) (n - f) (c7 - f)] wz fun e w' => ResF (slS, SS, 0) 1572864 wz e w') := Lib.hid (by
          have hlen : ((ps.drop f).take (n - f)).length = n - f := by rw [List.length_take, List.length_drop]; omega
          have h := yr_Fold ((ps.drop f).take (n - f)) (cutA A7 f c7) (c7 - f) wz (by omega) (((HSMS.out.below HBC.out).drop f c7 HCAP.out.1).take (n - f)) ((HT.out.below HB3.out).below HBC.out).tb
          rw [hlen, List.map_take, List.map_drop, hSS] at h
          exact h)
        have HRB : Hid (StB 1572864 SR ∧ StB 1572864 SS) := Lib.hid (by
          have h1 := fold_StB (ps.map Prod.fst)
          rw [HOK.out.2.2] at h1
          have h2 := fold_StB (((ps.map Prod.fst).drop f).take (n - f))
          rw [hSS] at h2
          exact ⟨h1, h2⟩)
        clear hSS he0 hsl hsl' hst0 hab HSEG
        go_wp2_with (first
          | (refine wpList_runV rfl _ (run_cutMid rfl rfl rfl rfl hf1 hn2 HCAP.out.1 HCAP.out.2.1 HCAP.out.2.2) ?_)
          | (go_at_call 11; refine HFS.out.mono ?_))
        rintro e w4 ⟨⟨vb, vs, vo⟩, sv, rq, hee, hrs, hos, hst, hb2⟩
        obtain ⟨p1, h1⟩ := hst.be.form
        obtain ⟨p2, h2⟩ := hst.so.form
        obtain ⟨p3, h3⟩ := hst.od.form
        dsimp only at h1 h2 h3
        subst h1 h2 h3
        obtain ⟨A11, c11, rfl, _⟩ := own_Sl encSl_len hos.1
        replace hee : e = .returned (.tuple #[.slice A11 rq.length c11, .agg #[.int .i64 SS.y, .int .i64 SS.i, .int .i64 SS.o, .map p1, .map p2, .int .i64 SS.tb, .int .i64 SS.tt, .map p3], .int .i64 0]) := hee
        subst hee
        obtain ⟨tb12, htb⟩ : ∃ x, w4.heap.size = x := ⟨_, rfl⟩
        obtain ⟨w5, hw3⟩ : ∃ x, w4.alloc (.cells #[.int .i64 SS.y, .int .i64 SS.i, .int .i64 SS.o, .map p1, .map p2, .int .i64 SS.tb, .int .i64 SS.tt, .map p3] 33) = x := ⟨_, rfl⟩
        have g3 : Below w4.heap.size w4 w5 := by rw [← hw3]; exact bAlloc _ _
        have HK12 : Hid (Bk tb12 33 #[.int .i64 SS.y, .int .i64 SS.i, .int .i64 SS.o, .map p1, .map p2, .int .i64 SS.tb, .int .i64 SS.tt, .map p3] w5) := Lib.hid (by rw [← hw3, ← htb]; exact Bk.new _ _ _)
        have HOQ : Hid (rq.map Prod.fst = slS ∧ OwnSl wz.heap.size (.slice A11 rq.length c11) rq w5) := Lib.hid ⟨hrs, hos.below g3⟩
        have HSS : Hid (StOk SS ⟨.map p1, .map p2, .map p3⟩ 1572864 w5) := Lib.hid (hst.below g3)
        have HB5 : Hid (Below wz.heap.size wz w5) := Lib.hid (bTrans hb2 g3)
        have HWF : Hid (w4.heap.size = tb12 ∧ w4.alloc (.cells #[.int .i64 SS.y, .int .i64 SS.i, .int .i64 SS.o, .map p1, .map p2, .int .i64 SS.tb, .int .i64 SS.tt, .map p3] 33) = w5) := Lib.hid ⟨htb, hw3⟩
        clear hrs hos hst hb2 g3 htb hw3 HFS
        go_upto_region 19 with fail
        rw [HWF.out.2, HWF.out.1]
        clear HWF
        have HBD : Hid (Below w3.heap.size w3 w5) := Lib.hid (bTrans HBC.out HB5.out)
        have HLQ : Hid (rq.length + f = n) := Lib.hid (by
          have h := HOQ.out.1
          have h2 := congrArg List.length h
          rw [List.length_map, HSLS.out, List.length_take, List.length_drop, HLN.out.1] at h2
          omega)
        go_cut [96] from 74 to 95 (fun a wy => a = .bool false ∧ Hid (Below w5.heap.size w5 wy))
        case first =>
          by_cases hnl : n = ps.length
          · have HDN : Hid (((n : Int) == (ps.length : Int)) = true) := Lib.hid (by rw [hnl]; simp)
            obtain ⟨TX, hTX⟩ : ∃ t, txM SR = t := ⟨_, rfl⟩
            have HKS : Hid (∀ W, Below w5.heap.size w5 W → W.cell? ⟨tb12, 0, none⟩ = some (.int .i64 SS.y) ∧ W.cell? ⟨tb12, 1, none⟩ = some (.int .i64 SS.i) ∧ W.cell? ⟨tb12, 2, none⟩ = some (.int .i64 SS.o) ∧ W.cell? ⟨tb12, 3, none⟩ = some (.map p1) ∧ W.cell? ⟨tb12, 4, none⟩ = some (.map p2) ∧ W.cell? ⟨tb12, 5, none⟩ = some (.int .i64 SS.tb) ∧ W.cell? ⟨tb12, 6, none⟩ = some (.int .i64 SS.tt) ∧ W.cell? ⟨tb12, 7, none⟩ = some (.map p3)) := Lib.hid (fun W hW => by
              have h := bkBel HK12.out hW
              exact ⟨h.cell 0, h.cell 1, h.cell 2, h.cell 3, h.cell 4, h.cell 5, h.cell 6, h.cell 7⟩)
            have HKR : Hid (∀ W, Below w5.heap.size w5 W → W.cell? ⟨tb7, 0, none⟩ = some (.int .i64 SR.y) ∧ W.cell? ⟨tb7, 1, none⟩ = some (.int .i64 SR.i) ∧ W.cell? ⟨tb7, 2, none⟩ = some (.int .i64 SR.o) ∧ W.cell? ⟨tb7, 3, none⟩ = some (.map m1) ∧ W.cell? ⟨tb7, 4, none⟩ = some (.map m2) ∧ W.cell? ⟨tb7, 5, none⟩ = some (.int .i64 SR.tb) ∧ W.cell? ⟨tb7, 6, none⟩ = some (.int .i64 SR.tt) ∧ W.cell? ⟨tb7, 7, none⟩ = some (.map m3)) := Lib.hid (fun W hW => by
              have h := bkBel HK7.out (bTrans HBD.out hW)
              exact ⟨h.cell 0, h.cell 1, h.cell 2, h.cell 3, h.cell 4, h.cell 5, h.cell 6, h.cell 7⟩)
            have HTS : Hid (∀ W, Below w5.heap.size w5 W → Calls Tryz.prog 15 #[.agg #[.int .i64 SS.y, .int .i64 SS.i, .int .i64 SS.o, .map p1, .map p2, .int .i64 SS.tb, .int .i64 SS.tt, .map p3]] W fun e w' => e = .returned (.string TX) ∧ Below W.heap.size W w') := Lib.hid (fun W hW => by
              rw [← hTX, ← HSTS.out hnl]
              exact yr_TextB SS ⟨.map p1, .map p2, .map p3⟩ 1572864 W (HSS.out.below hW) (by omega) HRB.out.2 (((HT.out.below HB3.out).below HBD.out).below hW))
            have HTR : Hid (∀ W, Below w5.heap.size w5 W → Calls Tryz.prog 15 #[.agg #[.int .i64 SR.y, .int .i64 SR.i, .int .i64 SR.o, .map m1, .map m2, .int .i64 SR.tb, .int .i64 SR.tt, .map m3]] W fun e w' => e = .returned (.string TX) ∧ Below W.heap.size W w') := Lib.hid (fun W hW => by
              rw [← hTX]
              exact yr_TextB SR ⟨.map m1, .map m2, .map m3⟩ 1572864 W (HSR.out.below (bTrans HBD.out hW)) (by omega) HRB.out.1 (((HT.out.below HB3.out).below HBD.out).below hW))
            clear hTX hnl
            refine wp_region_mk (SPS [(3, Sp.val (.slice A7 ps.length c7)), (9, Sp.val (.int .i64 f)), (10, Sp.val (.int .i64 n)), (13, Sp.val (.int .i64 0)), (11, Sp.val (.slice A11 rq.length c11)), (12, Sp.val (.pointer (some ⟨tb12, 0, none⟩))), (7, Sp.val (.pointer (some ⟨tb7, 0, none⟩))), (75, Sp.val (.bool false)), (78, Sp.val (.int .i64 rq.length)), (81, Sp.val (.int .i64 rq.length)), (82, Sp.val (.bool false)), (87, Sp.val (.int .i64 ps.length)), (88, Sp.val (.bool true)), (90, Sp.val (.agg #[.int .i64 SS.y, .int .i64 SS.i, .int .i64 SS.o, .map p1, .map p2, .int .i64 SS.tb, .int .i64 SS.tt, .map p3])), (91, Sp.val (.string TX)), (92, Sp.val (.agg #[.int .i64 SR.y, .int .i64 SR.i, .int .i64 SR.o, .map m1, .map m2, .int .i64 SR.tb, .int .i64 SR.tt, .map m3])), (93, Sp.val (.string TX)), (94, Sp.val (.bool false)), (74, Sp.val (.int .i64 0)), (76, Sp.val (.bool false)), (77, Sp.val (.slice A11 rq.length c11)), (79, Sp.val (.int .i64 n)), (80, Sp.val (.int .i64 f)), (83, Sp.val (.bool false)), (84, Sp.val (.bool false)), (85, Sp.val (.int .i64 n)), (86, Sp.val (.slice A7 ps.length c7)), (89, Sp.val (.bool true)), (95, Sp.val (.bool false)), (96, Sp.val (.bool false))]) [] [74, 75, 76, 77, 78, 79, 80, 81, 82, 83, 84, 85, 86, 87, 88, 89, 90, 91, 92, 93, 94, 95, 96] rfl (by rfl) (by kernel_rfl) (SPS.st _) ?_ ?_ ?_ (by decide) (by rfl) ?_ (opsK_all ?_) ?_
            · exact nil_all
            · exact nil_all
            · exact nil_all
            · exact sps_start (cons_all rfl (cons_all rfl (cons_all rfl (cons_all rfl (cons_all rfl (cons_all rfl (cons_all rfl (nil_all))))))))
            · refine opsK_cons (by
               exact kind_n (opOk_move rfl rfl (.inl rfl) (by kernel_rfl) (fun _ _ h => sps rfl (h.get rfl))) (by decide)) ?_
              refine opsK_cons (by
               exact kind_n (opOk_run rfl (.inl rfl) (fun a W hW hsp => by
                  have e74 : a.eval (.tmp 74) = .int .i64 0 := (hsp 74 (by kernel_rfl)).get rfl
                  refine ⟨.bool false, ?_, sps rfl rfl⟩
                  unfold execOp
                  simp only [e74]
                  go_simp)) (by decide)) ?_
              refine opsK_cons (by
               exact kind_n (opOk_move rfl rfl (.inl rfl) (by kernel_rfl) (fun _ _ h => sps rfl (h.get rfl))) (by decide)) ?_
              refine opsK_cons (by
               exact kind_n (opOk_move rfl rfl (.inr ⟨2, 76, false, rfl, rfl, (by kernel_rfl), fun _ _ h => h.get rfl⟩) (by kernel_rfl) (fun _ _ h => sps rfl (h.get rfl))) (by decide)) ?_
              refine opsK_cons (by
               exact kind_n (opOk_run rfl (.inr ⟨2, 76, false, rfl, rfl, (by kernel_rfl), fun _ _ h => h.get rfl⟩) (fun a W hW hsp => by
                  have e77 : a.eval (.tmp 77) = .slice A11 rq.length c11 := (hsp 77 (by kernel_rfl)).get rfl
                  have g77 : a.tmps[77]?.getD undef = .slice A11 rq.length c11 := by (have h := e77; simp only [Act.eval, Array.getD_eq_getD_getElem?] at h; exact h)
                  refine ⟨.int .i64 rq.length, ?_, sps rfl rfl⟩
                  unfold execOp
                  go_simp)) (by decide)) ?_
              refine opsK_cons (by
               exact kind_n (opOk_move rfl rfl (.inr ⟨2, 76, false, rfl, rfl, (by kernel_rfl), fun _ _ h => h.get rfl⟩) (by kernel_rfl) (fun _ _ h => sps rfl (h.get rfl))) (by decide)) ?_
              refine opsK_cons (by
               exact kind_n (opOk_move rfl rfl (.inr ⟨2, 76, false, rfl, rfl, (by kernel_rfl), fun _ _ h => h.get rfl⟩) (by kernel_rfl) (fun _ _ h => sps rfl (h.get rfl))) (by decide)) ?_
              refine opsK_cons (by
               exact kind_n (opOk_run rfl (.inr ⟨2, 76, false, rfl, rfl, (by kernel_rfl), fun _ _ h => h.get rfl⟩) (fun a W hW hsp => by
                  have e79 : a.eval (.tmp 79) = .int .i64 n := (hsp 79 (by kernel_rfl)).get rfl
                  have e80 : a.eval (.tmp 80) = .int .i64 f := (hsp 80 (by kernel_rfl)).get rfl
                  have hl := HLQ.out
                  refine ⟨.int .i64 rq.length, ?_, sps rfl rfl⟩
                  unfold execOp
                  simp only [e79, e80]
                  go_simp
                  rw [IntKind.wrap_i64]; omega)) (by decide)) ?_
              refine opsK_cons (by
               exact kind_n (opOk_run rfl (.inr ⟨2, 76, false, rfl, rfl, (by kernel_rfl), fun _ _ h => h.get rfl⟩) (fun a W hW hsp => by
                  have e78 : a.eval (.tmp 78) = .int .i64 rq.length := (hsp 78 (by kernel_rfl)).get rfl
                  have e81 : a.eval (.tmp 81) = .int .i64 rq.length := (hsp 81 (by kernel_rfl)).get rfl
                  refine ⟨.bool false, ?_, sps rfl rfl⟩
                  unfold execOp
                  simp only [e78, e81]
                  go_simp)) (by decide)) ?_
              refine opsK_cons (by
               exact kind_n (opOk_run rfl (.inl rfl) (fun a W hW hsp => by
                  have e76 : a.eval (.tmp 76) = .bool false := (hsp 76 (by kernel_rfl)).get rfl
                  have e82 : a.eval (.tmp 82) = .bool false := (hsp 82 (by kernel_rfl)).get rfl
                  refine ⟨.bool false, ?_, sps rfl rfl⟩
                  unfold execOp
                  simp only [e76, e82]
                  go_simp)) (by decide)) ?_
              refine opsK_cons (by
               exact kind_n (opOk_move rfl rfl (.inl rfl) (by kernel_rfl) (fun _ _ h => sps rfl (h.get rfl))) (by decide)) ?_
              refine opsK_cons (by
               exact kind_n (opOk_move rfl rfl (.inr ⟨10, 84, false, rfl, rfl, (by kernel_rfl), fun _ _ h => h.get rfl⟩) (by kernel_rfl) (fun _ _ h => sps rfl (h.get rfl))) (by decide)) ?_
              refine opsK_cons (by
               exact kind_n (opOk_move rfl rfl (.inr ⟨10, 84, false, rfl, rfl, (by kernel_rfl), fun _ _ h => h.get rfl⟩) (by kernel_rfl) (fun _ _ h => sps rfl (h.get rfl))) (by decide)) ?_
              refine opsK_cons (by
               exact kind_n (opOk_run rfl (.inr ⟨10, 84, false, rfl, rfl, (by kernel_rfl), fun _ _ h => h.get rfl⟩) (fun a W hW hsp => by
                  have e86 : a.eval (.tmp 86) = .slice A7 ps.length c7 := (hsp 86 (by kernel_rfl)).get rfl
                  have g86 : a.tmps[86]?.getD undef = .slice A7 ps.length c7 := by (have h := e86; simp only [Act.eval, Array.getD_eq_getD_getElem?] at h; exact h)
                  refine ⟨.int .i64 ps.length, ?_, sps rfl rfl⟩
                  unfold execOp
                  go_simp)) (by decide)) ?_
              refine opsK_cons (by
               exact kind_n (opOk_run rfl (.inr ⟨10, 84, false, rfl, rfl, (by kernel_rfl), fun _ _ h => h.get rfl⟩) (fun a W hW hsp => by
                  have e85 : a.eval (.tmp 85) = .int .i64 n := (hsp 85 (by kernel_rfl)).get rfl
                  have e87 : a.eval (.tmp 87) = .int .i64 ps.length := (hsp 87 (by kernel_rfl)).get rfl
                  have hd := HDN.out
                  refine ⟨.bool true, ?_, sps rfl rfl⟩
                  unfold execOp
                  simp only [e85, e87]
                  go_simp)) (by decide)) ?_
              refine opsK_cons (by
               exact kind_n (opOk_move rfl rfl (.inr ⟨10, 84, false, rfl, rfl, (by kernel_rfl), fun _ _ h => h.get rfl⟩) (by kernel_rfl) (fun _ _ h => sps rfl (h.get rfl))) (by decide)) ?_
              refine opsK_cons (by
               exact kind_n (opOk_load (p := ⟨tb12, 0, none⟩) rfl rfl (.inr ⟨15, 89, true, rfl, rfl, (by kernel_rfl), fun _ _ h => h.get rfl⟩) (by kernel_rfl) (fun _ _ h => h.get rfl) (fun W hW => by
                  obtain ⟨q0, q1, q2, q3, q4, q5, q6, q7⟩ := HKS.out W hW
                  exact ⟨.agg #[.int .i64 SS.y, .int .i64 SS.i, .int .i64 SS.o, .map p1, .map p2, .int .i64 SS.tb, .int .i64 SS.tt, .map p3], by go_simp, sps rfl rfl⟩)) (by decide)) ?_
              refine opsK_cons (by
               exact kind_n (opOk_callg (fun a => #[a.eval (.tmp 90)]) rfl rfl (.inr ⟨15, 89, true, rfl, rfl, (by kernel_rfl), fun _ _ h => h.get rfl⟩) (fun a => by simp only [List.map_toArray, List.map_cons, List.map_nil] <;> rfl) (fun args W => by go_simp) (fun a W hW hsp => by
                  have e90 : a.eval (.tmp 90) = .agg #[.int .i64 SS.y, .int .i64 SS.i, .int .i64 SS.o, .map p1, .map p2, .int .i64 SS.tb, .int .i64 SS.tt, .map p3] := (hsp 90 (by kernel_rfl)).get rfl
                  simp only [e90]
                  exact (HTS.out W hW).mono fun e w' ⟨he, hb⟩ => ⟨_, he, hb, sps rfl rfl⟩)) (by decide)) ?_
              refine opsK_cons (by
               exact kind_n (opOk_load (p := ⟨tb7, 0, none⟩) rfl rfl (.inr ⟨15, 89, true, rfl, rfl, (by kernel_rfl), fun _ _ h => h.get rfl⟩) (by kernel_rfl) (fun _ _ h => h.get rfl) (fun W hW => by
                  obtain ⟨q0, q1, q2, q3, q4, q5, q6, q7⟩ := HKR.out W hW
                  exact ⟨.agg #[.int .i64 SR.y, .int .i64 SR.i, .int .i64 SR.o, .map m1, .map m2, .int .i64 SR.tb, .int .i64 SR.tt, .map m3], by go_simp, sps rfl rfl⟩)) (by decide)) ?_
              refine opsK_cons (by
               exact kind_n (opOk_callg (fun a => #[a.eval (.tmp 92)]) rfl rfl (.inr ⟨15, 89, true, rfl, rfl, (by kernel_rfl), fun _ _ h => h.get rfl⟩) (fun a => by simp only [List.map_toArray, List.map_cons, List.map_nil] <;> rfl) (fun args W => by go_simp) (fun a W hW hsp => by
                  have e92 : a.eval (.tmp 92) = .agg #[.int .i64 SR.y, .int .i64 SR.i, .int .i64 SR.o, .map m1, .map m2, .int .i64 SR.tb, .int .i64 SR.tt, .map m3] := (hsp 92 (by kernel_rfl)).get rfl
                  simp only [e92]
                  exact (HTR.out W hW).mono fun e w' ⟨he, hb⟩ => ⟨_, he, hb, sps rfl rfl⟩)) (by decide)) ?_
              refine opsK_cons (by
               exact kind_n (opOk_run rfl (.inr ⟨15, 89, true, rfl, rfl, (by kernel_rfl), fun _ _ h => h.get rfl⟩) (fun a W hW hsp => by
                  have e91 : a.eval (.tmp 91) = .string TX := (hsp 91 (by kernel_rfl)).get rfl
                  have e93 : a.eval (.tmp 93) = .string TX := (hsp 93 (by kernel_rfl)).get rfl
                  refine ⟨.bool false, ?_, sps rfl rfl⟩
                  unfold execOp
                  simp only [e91, e93]
                  go_simp)) (by decide)) ?_
              refine opsK_cons (by
               exact kind_n (opOk_run rfl (.inr ⟨10, 84, false, rfl, rfl, (by kernel_rfl), fun _ _ h => h.get rfl⟩) (fun a W hW hsp => by
                  have e89 : a.eval (.tmp 89) = .bool true := (hsp 89 (by kernel_rfl)).get rfl
                  have e94 : a.eval (.tmp 94) = .bool false := (hsp 94 (by kernel_rfl)).get rfl
                  refine ⟨.bool false, ?_, sps rfl rfl⟩
                  unfold execOp
                  simp only [e89, e94]
                  go_simp)) (by decide)) ?_
              refine opsK_cons (by
               exact kind_n (opOk_run rfl (.inl rfl) (fun a W hW hsp => by
                  have e84 : a.eval (.tmp 84) = .bool false := (hsp 84 (by kernel_rfl)).get rfl
                  have e95 : a.eval (.tmp 95) = .bool false := (hsp 95 (by kernel_rfl)).get rfl
                  refine ⟨.bool false, ?_, sps rfl rfl⟩
                  unfold execOp
                  simp only [e84, e95]
                  go_simp)) (by decide)) ?_
              exact opsK_nil
            · intro vs W hb hsp _
              have z96 := (hsp 96).get rfl
              simp only [putAll]
              go_simp
              go_step
              go_meet
              exact ⟨z96, Lib.hid hb⟩
          · have HDN : Hid (((n : Int) == (ps.length : Int)) = false) := Lib.hid (beq_eq_false_iff_ne.2 (by omega))
            clear hnl
            refine wp_region_use (SPS [(3, Sp.val (.slice A7 ps.length c7)), (9, Sp.val (.int .i64 f)), (10, Sp.val (.int .i64 n)), (13, Sp.val (.int .i64 0)), (11, Sp.val (.slice A11 rq.length c11)), (12, Sp.val (.pointer (some ⟨tb12, 0, none⟩))), (7, Sp.val (.pointer (some ⟨tb7, 0, none⟩))), (75, Sp.val (.bool false)), (78, Sp.val (.int .i64 rq.length)), (81, Sp.val (.int .i64 rq.length)), (82, Sp.val (.bool false)), (87, Sp.val (.int .i64 ps.length)), (88, Sp.val (.bool false)), (74, Sp.val (.int .i64 0)), (76, Sp.val (.bool false)), (77, Sp.val (.slice A11 rq.length c11)), (79, Sp.val (.int .i64 n)), (80, Sp.val (.int .i64 f)), (83, Sp.val (.bool false)), (84, Sp.val (.bool false)), (85, Sp.val (.int .i64 n)), (86, Sp.val (.slice A7 ps.length c7)), (89, Sp.val (.bool false)), (95, Sp.val (.bool false)), (96, Sp.val (.bool false))]) [] [74, 75, 76, 77, 78, 79, 80, 81, 82, 83, 84, 85, 86, 87, 88, 89, 90, 91, 92, 93, 94, 95, 96] rfl (by rfl) (by kernel_rfl) (SPS.st _) (by rfl) ?_ (opsK_all ?_) ?_
            · exact sps_start (cons_all rfl (cons_all rfl (cons_all rfl (cons_all rfl (cons_all rfl (cons_all rfl (cons_all rfl (nil_all))))))))
            · refine opsK_cons (by
               exact use_s [] (opOk_move rfl rfl (.inl rfl) (by kernel_rfl) (fun _ _ h => sps rfl (h.get rfl))) (by kernel_rfl) (by rfl)) ?_
              refine opsK_cons (by
               exact use_s [] (opOk_run rfl (.inl rfl) (fun a W hW hsp => by
                  have e74 : a.eval (.tmp 74) = .int .i64 0 := (hsp 74 (by kernel_rfl)).get rfl
                  refine ⟨.bool false, ?_, sps rfl rfl⟩
                  unfold execOp
                  simp only [e74]
                  go_simp)) (by kernel_rfl) (by rfl)) ?_
              refine opsK_cons (by
               exact use_s [] (opOk_move rfl rfl (.inl rfl) (by kernel_rfl) (fun _ _ h => sps rfl (h.get rfl))) (by kernel_rfl) (by rfl)) ?_
              refine opsK_cons (by
               exact use_s [] (opOk_move rfl rfl (.inr ⟨2, 76, false, rfl, rfl, (by kernel_rfl), fun _ _ h => h.get rfl⟩) (by kernel_rfl) (fun _ _ h => sps rfl (h.get rfl))) (by kernel_rfl) (by rfl)) ?_
              refine opsK_cons (by
               exact use_s [] (opOk_run rfl (.inr ⟨2, 76, false, rfl, rfl, (by kernel_rfl), fun _ _ h => h.get rfl⟩) (fun a W hW hsp => by
                  have e77 : a.eval (.tmp 77) = .slice A11 rq.length c11 := (hsp 77 (by kernel_rfl)).get rfl
                  have g77 : a.tmps[77]?.getD undef = .slice A11 rq.length c11 := by (have h := e77; simp only [Act.eval, Array.getD_eq_getD_getElem?] at h; exact h)
                  refine ⟨.int .i64 rq.length, ?_, sps rfl rfl⟩
                  unfold execOp
                  go_simp)) (by kernel_rfl) (by rfl)) ?_
              refine opsK_cons (by
               exact use_s [] (opOk_move rfl rfl (.inr ⟨2, 76, false, rfl, rfl, (by kernel_rfl), fun _ _ h => h.get rfl⟩) (by kernel_rfl) (fun _ _ h => sps rfl (h.get rfl))) (by kernel_rfl) (by rfl)) ?_
              refine opsK_cons (by
               exact use_s [] (opOk_move rfl rfl (.inr ⟨2, 76, false, rfl, rfl, (by kernel_rfl), fun _ _ h => h.get rfl⟩) (by kernel_rfl) (fun _ _ h => sps rfl (h.get rfl))) (by kernel_rfl) (by rfl)) ?_
              refine opsK_cons (by
               exact use_s [] (opOk_run rfl (.inr ⟨2, 76, false, rfl, rfl, (by kernel_rfl), fun _ _ h => h.get rfl⟩) (fun a W hW hsp => by
                  have e79 : a.eval (.tmp 79) = .int .i64 n := (hsp 79 (by kernel_rfl)).get rfl
                  have e80 : a.eval (.tmp 80) = .int .i64 f := (hsp 80 (by kernel_rfl)).get rfl
                  have hl := HLQ.out
                  refine ⟨.int .i64 rq.length, ?_, sps rfl rfl⟩
                  unfold execOp
                  simp only [e79, e80]
                  go_simp
                  rw [IntKind.wrap_i64]; omega)) (by kernel_rfl) (by rfl)) ?_
              refine opsK_cons (by
               exact use_s [] (opOk_run rfl (.inr ⟨2, 76, false, rfl, rfl, (by kernel_rfl), fun _ _ h => h.get rfl⟩) (fun a W hW hsp => by
                  have e78 : a.eval (.tmp 78) = .int .i64 rq.length := (hsp 78 (by kernel_rfl)).get rfl
                  have e81 : a.eval (.tmp 81) = .int .i64 rq.length := (hsp 81 (by kernel_rfl)).get rfl
                  refine ⟨.bool false, ?_, sps rfl rfl⟩
                  unfold execOp
                  simp only [e78, e81]
                  go_simp)) (by kernel_rfl) (by rfl)) ?_
              refine opsK_cons (by
               exact use_s [] (opOk_run rfl (.inl rfl) (fun a W hW hsp => by
                  have e76 : a.eval (.tmp 76) = .bool false := (hsp 76 (by kernel_rfl)).get rfl
                  have e82 : a.eval (.tmp 82) = .bool false := (hsp 82 (by kernel_rfl)).get rfl
                  refine ⟨.bool false, ?_, sps rfl rfl⟩
                  unfold execOp
                  simp only [e76, e82]
                  go_simp)) (by kernel_rfl) (by rfl)) ?_
              refine opsK_cons (by
               exact use_s [] (opOk_move rfl rfl (.inl rfl) (by kernel_rfl) (fun _ _ h => sps rfl (h.get rfl))) (by kernel_rfl) (by rfl)) ?_
              refine opsK_cons (by
               exact use_s [] (opOk_move rfl rfl (.inr ⟨10, 84, false, rfl, rfl, (by kernel_rfl), fun _ _ h => h.get rfl⟩) (by kernel_rfl) (fun _ _ h => sps rfl (h.get rfl))) (by kernel_rfl) (by rfl)) ?_
              refine opsK_cons (by
               exact use_s [] (opOk_move rfl rfl (.inr ⟨10, 84, false, rfl, rfl, (by kernel_rfl), fun _ _ h => h.get rfl⟩) (by kernel_rfl) (fun _ _ h => sps rfl (h.get rfl))) (by kernel_rfl) (by rfl)) ?_
              refine opsK_cons (by
               exact use_s [] (opOk_run rfl (.inr ⟨10, 84, false, rfl, rfl, (by kernel_rfl), fun _ _ h => h.get rfl⟩) (fun a W hW hsp => by
                  have e86 : a.eval (.tmp 86) = .slice A7 ps.length c7 := (hsp 86 (by kernel_rfl)).get rfl
                  have g86 : a.tmps[86]?.getD undef = .slice A7 ps.length c7 := by (have h := e86; simp only [Act.eval, Array.getD_eq_getD_getElem?] at h; exact h)
                  refine ⟨.int .i64 ps.length, ?_, sps rfl rfl⟩
                  unfold execOp
                  go_simp)) (by kernel_rfl) (by rfl)) ?_
              refine opsK_cons (by
               exact use_s [] (opOk_run rfl (.inr ⟨10, 84, false, rfl, rfl, (by kernel_rfl), fun _ _ h => h.get rfl⟩) (fun a W hW hsp => by
                  have e85 : a.eval (.tmp 85) = .int .i64 n := (hsp 85 (by kernel_rfl)).get rfl
                  have e87 : a.eval (.tmp 87) = .int .i64 ps.length := (hsp 87 (by kernel_rfl)).get rfl
                  have hd := HDN.out
                  refine ⟨.bool false, ?_, sps rfl rfl⟩
                  unfold execOp
                  simp only [e85, e87]
                  go_simp)) (by kernel_rfl) (by rfl)) ?_
              refine opsK_cons (by
               exact use_s [] (opOk_move rfl rfl (.inr ⟨10, 84, false, rfl, rfl, (by kernel_rfl), fun _ _ h => h.get rfl⟩) (by kernel_rfl) (fun _ _ h => sps rfl (h.get rfl))) (by kernel_rfl) (by rfl)) ?_
              refine opsK_cons (by
               exact use_skip rfl rfl (by kernel_rfl) (by rfl) (fun _ _ h => h.get rfl) (fun d hd => by cases hd; rfl)) ?_
              refine opsK_cons (by
               exact use_skip rfl rfl (by kernel_rfl) (by rfl) (fun _ _ h => h.get rfl) (fun d hd => by cases hd; rfl)) ?_
              refine opsK_cons (by
               exact use_skip rfl rfl (by kernel_rfl) (by rfl) (fun _ _ h => h.get rfl) (fun d hd => by cases hd; rfl)) ?_
              refine opsK_cons (by
               exact use_skip rfl rfl (by kernel_rfl) (by rfl) (fun _ _ h => h.get rfl) (fun d hd => by cases hd; rfl)) ?_
              refine opsK_cons (by
               exact use_skip rfl rfl (by kernel_rfl) (by rfl) (fun _ _ h => h.get rfl) (fun d hd => by cases hd; rfl)) ?_
              refine opsK_cons (by
               exact use_s [] (opOk_run rfl (.inr ⟨10, 84, false, rfl, rfl, (by kernel_rfl), fun _ _ h => h.get rfl⟩) (fun a W hW hsp => by
                  have e89 : a.eval (.tmp 89) = .bool false := (hsp 89 (by kernel_rfl)).get rfl
                  refine ⟨.bool false, ?_, sps rfl rfl⟩
                  unfold execOp
                  simp only [e89]
                  go_simp)) (by kernel_rfl) (by rfl)) ?_
              refine opsK_cons (by
               exact use_s [] (opOk_run rfl (.inl rfl) (fun a W hW hsp => by
                  have e84 : a.eval (.tmp 84) = .bool false := (hsp 84 (by kernel_rfl)).get rfl
                  have e95 : a.eval (.tmp 95) = .bool false := (hsp 95 (by kernel_rfl)).get rfl
                  refine ⟨.bool false, ?_, sps rfl rfl⟩
                  unfold execOp
                  simp only [e84, e95]
                  go_simp)) (by kernel_rfl) (by rfl)) ?_
              exact opsK_nil
            · intro vs W hb hsp
              have z96 := (hsp 96 (by simp)).get rfl
              simp only [putAll]
              go_simp
              go_step
              go_meet
              exact ⟨z96, Lib.hid hb⟩
        case rest =>
        obtain ⟨rfl, HBY⟩ := hcut
        rename World => wy
        have hlq := HLQ.out
        have hlq1 : rq.length ≤ 1000000 := by omega
        go_wp2_with fail
        go_loopg [14] rq.length (fun kk jv wv => ∃ (j : Nat), j + kk = rq.length ∧ jv = .int .i64 j ∧ Hid (Below w5.heap.size w5 wv))
        case atStart => exact ⟨0, Nat.zero_add _, rfl, HBY⟩
        case round =>
          obtain ⟨j, hj, rfl, HBV⟩ := hrel
          rename World => wv
          by_cases hlt : j < rq.length
          · have hrl : f + j < rs.length := by have := HLN.out.2; omega
            obtain ⟨ga, capa, hea, _, hrwa⟩ := HOQ.out.2.1.row encSl_len (by intro h; simp [h] at hlt)
            obtain ⟨gb, capb, heb, _, hrwb⟩ := HOS.out.2.1.row encSl_len (by intro h; simp [h] at hrl)
            have haa : A11 = some ⟨ga, 0, none⟩ := by injection hea
            have hab : A3 = some ⟨gb, 0, none⟩ := by injection heb
            clear hea heb
            subst haa hab
            obtain ⟨⟨⟨y5, i5, l5⟩, A5, c5⟩, hxa⟩ : ∃ x, rq[j]? = some x := ⟨_, List.getElem?_eq_getElem hlt⟩
            obtain ⟨⟨⟨y6, i6, l6⟩, A6, c6⟩, hxb⟩ : ∃ x, rs[f + j]? = some x := ⟨_, List.getElem?_eq_getElem hrl⟩
            have hxe : ((y5, i5, l5) : Slp) = (y6, i6, l6) := by
              have h1 : (rq.map Prod.fst)[j]? = some (y5, i5, l5) := by rw [List.getElem?_map, hxa]; rfl
              have h2 : (rs.map Prod.fst)[f + j]? = some (y6, i6, l6) := by rw [List.getElem?_map, hxb]; rfl
              rw [HOQ.out.1, HSLS.out, List.getElem?_take_of_lt (by omega), List.getElem?_drop, ← HOS.out.1, h2] at h1
              exact (Option.some.inj h1).symm
            simp only [Prod.mk.injEq] at hxe
            obtain ⟨rfl, rfl, rfl⟩ := hxe
            have h448 : l5.length ≤ 448 := by
              have hm : (y5, i5, l5) ∈ (foldM (ps.map Prod.fst)).1 := by rw [HOK.out.2.1, ← HOS.out.1]; exact List.mem_map.2 ⟨_, List.mem_of_getElem? hxb, rfl⟩
              exact (slpE_fit (nets_fold _ _ hm).1).1
            have HKX : Hid (∀ W, Below wv.heap.size wv W → (W.cell? ⟨ga, j * 3, none⟩ = some (.int .i64 y5) ∧ W.cell? ⟨ga, j * 3 + 1, none⟩ = some (.int .i64 i5) ∧ W.cell? ⟨ga, j * 3 + 2, none⟩ = some (.slice A5 l5.length c5)) ∧ W.cell? ⟨gb, (f + j) * 3, none⟩ = some (.int .i64 y5) ∧ W.cell? ⟨gb, (f + j) * 3 + 1, none⟩ = some (.int .i64 i5) ∧ W.cell? ⟨gb, (f + j) * 3 + 2, none⟩ = some (.slice A6 l5.length c6)) := Lib.hid (fun W hW => by
              have hbw := bTrans HBV.out hW
              have ra := hrwa.below hbw hrwa.lt
              have rb := hrwb.below (bTrans HBD.out hbw) hrwb.lt
              exact ⟨⟨ra.cell hxa (j := 0) rfl, ra.cell hxa (j := 1) rfl, ra.cell hxa (j := 2) rfl⟩, rb.cell hxb (j := 0) rfl, rb.cell hxb (j := 1) rfl, rb.cell hxb (j := 2) rfl⟩)
            have HSA : Hid (∀ W, Below wv.heap.size wv W → Calls Tryz.prog 14 #[.agg #[.int .i64 y5, .int .i64 i5, .slice A5 l5.length c5], .agg #[.int .i64 y5, .int .i64 i5, .slice A6 l5.length c6]] W fun e w' => e = .returned (.bool true) ∧ Below W.heap.size W w') := Lib.hid (fun W hW => by
              have hbw := bTrans HBV.out hW
              exact la_same y5 i5 l5 A5 A6 c5 c6 W (by omega) (ownSlc encLi_len ((HOQ.out.2.below hbw).2 _ (List.mem_of_getElem? hxa))) (ownSlc encLi_len ((HOS.out.2.below (bTrans HBD.out hbw)).2 _ (List.mem_of_getElem? hxb))))
            have HIJ : Hid (j < rq.length ∧ f + j < rs.length ∧ f + j ≤ 1000) := Lib.hid ⟨hlt, hrl, by omega⟩
            clear hrwa hrwb hxa hxb h448
            go_upto_region 24 with fail
            go_cut [114] from 103 to 113 (fun v wx => v = .bool false ∧ Hid (Below wv.heap.size wv wx))
            case first =>
              refine wp_region_mk (SPS [(11, Sp.val (.slice (some ⟨ga, 0, none⟩) rq.length c11)), (14, Sp.val (.int .i64 j)), (6, Sp.val (.slice (some ⟨gb, 0, none⟩) rs.length c3)), (9, Sp.val (.int .i64 f)), (105, Sp.val (.pointer (some ⟨ga, j * 3, none⟩))), (106, Sp.val (.agg #[.int .i64 y5, .int .i64 i5, .slice A5 l5.length c5])), (110, Sp.val (.int .i64 ((f + j : Nat) : Int))), (111, Sp.val (.pointer (some ⟨gb, (f + j) * 3, none⟩))), (112, Sp.val (.agg #[.int .i64 y5, .int .i64 i5, .slice A6 l5.length c6])), (113, Sp.val (.bool true)), (114, Sp.val (.bool false)), (103, Sp.val (.slice (some ⟨ga, 0, none⟩) rq.length c11)), (104, Sp.val (.int .i64 j)), (107, Sp.val (.slice (some ⟨gb, 0, none⟩) rs.length c3)), (108, Sp.val (.int .i64 f)), (109, Sp.val (.int .i64 j))]) [] [103, 104, 105, 106, 107, 108, 109, 110, 111, 112, 113, 114] rfl (by rfl) (by kernel_rfl) (SPS.st _) ?_ ?_ ?_ (by decide) (by rfl) ?_ (opsK_all ?_) ?_
              · exact nil_all
              · exact nil_all
              · exact nil_all
              · exact sps_start (cons_all rfl (cons_all rfl (cons_all rfl (cons_all rfl (nil_all)))))
              · refine opsK_cons (by
                 exact kind_n (opOk_move rfl rfl (.inl rfl) (by kernel_rfl) (fun _ _ h => sps rfl (h.get rfl))) (by decide)) ?_
                refine opsK_cons (by
                 exact kind_n (opOk_move rfl rfl (.inl rfl) (by kernel_rfl) (fun _ _ h => sps rfl (h.get rfl))) (by decide)) ?_
                refine opsK_cons (by
                 exact kind_n (opOk_run rfl (.inl rfl) (fun a W hW hsp => by
                    have e103 : a.eval (.tmp 103) = .slice (some ⟨ga, 0, none⟩) rq.length c11 := (hsp 103 (by kernel_rfl)).get rfl
                    have e104 : a.eval (.tmp 104) = .int .i64 j := (hsp 104 (by kernel_rfl)).get rfl
                    have hb1 := HIJ.out
                    refine ⟨.pointer (some ⟨ga, j * 3, none⟩), ?_, sps rfl rfl⟩
                    unfold execOp
                    simp only [e103, e104]
                    go_simp)) (by decide)) ?_
                refine opsK_cons (by
                 exact kind_n (opOk_load (p := ⟨ga, j * 3, none⟩) rfl rfl (.inl rfl) (by kernel_rfl) (fun _ _ h => h.get rfl) (fun W hW => by
                    obtain ⟨⟨q0, q1, q2⟩, _⟩ := HKX.out W hW
                    exact ⟨.agg #[.int .i64 y5, .int .i64 i5, .slice A5 l5.length c5], by go_simp, sps rfl rfl⟩)) (by decide)) ?_
                refine opsK_cons (by
                 exact kind_n (opOk_move rfl rfl (.inl rfl) (by kernel_rfl) (fun _ _ h => sps rfl (h.get rfl))) (by decide)) ?_
                refine opsK_cons (by
                 exact kind_n (opOk_move rfl rfl (.inl rfl) (by kernel_rfl) (fun _ _ h => sps rfl (h.get rfl))) (by decide)) ?_
                refine opsK_cons (by
                 exact kind_n (opOk_move rfl rfl (.inl rfl) (by kernel_rfl) (fun _ _ h => sps rfl (h.get rfl))) (by decide)) ?_
                refine opsK_cons (by
                 exact kind_n (opOk_run rfl (.inl rfl) (fun a W hW hsp => by
                    have e108 : a.eval (.tmp 108) = .int .i64 f := (hsp 108 (by kernel_rfl)).get rfl
                    have e109 : a.eval (.tmp 109) = .int .i64 j := (hsp 109 (by kernel_rfl)).get rfl
                    have hb1 := HIJ.out
                    refine ⟨.int .i64 ((f + j : Nat) : Int), ?_, sps rfl rfl⟩
                    unfold execOp
                    simp only [e108, e109]
                    go_simp
                    rw [IntKind.wrap_i64]; omega)) (by decide)) ?_
                refine opsK_cons (by
                 exact kind_n (opOk_run rfl (.inl rfl) (fun a W hW hsp => by
                    have e107 : a.eval (.tmp 107) = .slice (some ⟨gb, 0, none⟩) rs.length c3 := (hsp 107 (by kernel_rfl)).get rfl
                    have e110 : a.eval (.tmp 110) = .int .i64 ((f + j : Nat) : Int) := (hsp 110 (by kernel_rfl)).get rfl
                    have hb1 := HIJ.out
                    refine ⟨.pointer (some ⟨gb, (f + j) * 3, none⟩), ?_, sps rfl rfl⟩
                    unfold execOp
                    simp only [e107, e110]
                    go_simp
                    rw [if_pos (by omega), show ((f : Int) + (j : Int)).toNat = f + j by omega])) (by decide)) ?_
                refine opsK_cons (by
                 exact kind_n (opOk_load (p := ⟨gb, (f + j) * 3, none⟩) rfl rfl (.inl rfl) (by kernel_rfl) (fun _ _ h => h.get rfl) (fun W hW => by
                    obtain ⟨_, q0, q1, q2⟩ := HKX.out W hW
                    exact ⟨.agg #[.int .i64 y5, .int .i64 i5, .slice A6 l5.length c6], by go_simp, sps rfl rfl⟩)) (by decide)) ?_
                refine opsK_cons (by
                 exact kind_n (opOk_callg (fun a => #[a.eval (.tmp 106), a.eval (.tmp 112)]) rfl rfl (.inl rfl) (fun a => by simp only [List.map_toArray, List.map_cons, List.map_nil] <;> rfl) (fun args W => by go_simp) (fun a W hW hsp => by
                    have e106 : a.eval (.tmp 106) = .agg #[.int .i64 y5, .int .i64 i5, .slice A5 l5.length c5] := (hsp 106 (by kernel_rfl)).get rfl
                    have e112 : a.eval (.tmp 112) = .agg #[.int .i64 y5, .int .i64 i5, .slice A6 l5.length c6] := (hsp 112 (by kernel_rfl)).get rfl
                    simp only [e106, e112]
                    exact (HSA.out W hW).mono fun e w' ⟨he, hb⟩ => ⟨_, he, hb, sps rfl rfl⟩)) (by decide)) ?_
                refine opsK_cons (by
                 exact kind_n (opOk_run rfl (.inl rfl) (fun a W hW hsp => by
                    have e113 : a.eval (.tmp 113) = .bool true := (hsp 113 (by kernel_rfl)).get rfl
                    refine ⟨.bool false, ?_, sps rfl rfl⟩
                    unfold execOp
                    simp only [e113]
                    go_simp)) (by decide)) ?_
                exact opsK_nil
              · intro vs W hb hsp _
                have z114 := (hsp 114).get rfl
                simp only [putAll]
                go_simp
                go_step
                go_meet
                exact ⟨z114, Lib.hid hb⟩
            case rest =>
            obtain ⟨rfl, HBU⟩ := hcut
            go_wp2
            go_roundg (rq.length - (j + 1))
            case measure => omega
            case rel => exact ⟨j + 1, by omega, by go_num, Lib.hid (bTrans HBV.out HBU.out)⟩
          · obtain rfl : j = rq.length := by omega
            have HBE2 : Hid (Below w3.heap.size w3 wv) := Lib.hid (bTrans HBD.out HBV.out)
            by_cases hnl : n = ps.length
            · have hd : ((n : Int) == (ps.length : Int)) = true := by rw [hnl]; simp
              have HBF : Hid (Below w.heap.size w wv) := Lib.hid (bTrans HB3.out HBE2.out)
              clear hnl
              go_wp2_with (go_at_call 10; refine (HAW.out _ HBF.out).mono ?_; rintro e w6 ⟨rfl, hb6⟩)
              go_ret
              exact ⟨rfl, bTrans HBF.out hb6⟩
            · have hd : ((n : Int) == (ps.length : Int)) = false := beq_eq_false_iff_ne.2 (by omega)
              have HF3 : Hid (n ≤ n + 1 ∧ (n < n + 1 ∨ n + 1 = 0) ∧ (∀ j M M', n ≤ j → j < n + 1 → (ps.map Prod.fst)[j]? = some M → (ps.map Prod.fst)[n]? = some M' → M.y = M'.y) ∧ (n = 0 ∨ ∃ M M', (ps.map Prod.fst)[n - 1]? = some M ∧ (ps.map Prod.fst)[n]? = some M' ∧ M.y ≠ M'.y)) := Lib.hid ⟨by omega, .inl (by omega), fun j M M' h1 h2 h3 h4 => by
                obtain rfl : j = n := by omega
                rw [h3] at h4
                cases h4
                rfl, by
                rcases hdif with h | ⟨M, M', h2, h3, h4⟩
                · exact absurd h hnl
                · by_cases e : n = 0
                  · exact .inl e
                  · right
                    have hfl : f < n := by rcases HFN.out.2.1 with h | h; exact h; exact absurd h e
                    obtain ⟨M1, hM1⟩ : ∃ x, (ps.map Prod.fst)[n - 1]? = some x := ⟨_, List.getElem?_eq_getElem (by rw [List.length_map]; omega)⟩
                    refine ⟨M1, M, hM1, h2, ?_⟩
                    have := HFN.out.2.2.1 (n - 1) M1 M' (by omega) (by omega) hM1 h3
                    rw [this]
                    exact fun e => h4 e.symm⟩
              clear hdif
              go_wp2
              go_roundg (ps.length + 1 - (n + 1))
              case measure => omega
              case rel => exact ⟨n + 1, n, by omega, by omega, by go_num, rfl, HF3, HBE2⟩
end Go.Proofs.YtgepbkldgnjpfaaGreatDoor
