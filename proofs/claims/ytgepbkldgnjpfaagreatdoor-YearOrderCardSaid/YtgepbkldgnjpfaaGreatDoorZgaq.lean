/- Out of: Yt4. -/
import Derived.Test.YtgepbkldgnjpfaaGreatDoorZgb
import Derived.Test.YtgepbkldgnjpfaaGreatDoorZgai
import Derived.Test.YtgepbkldgnjpfaaGreatDoorZgap
/- year's laws: the walk of YearOrder (gen/mkyt4.py). -/
namespace Go.Proofs.YtgepbkldgnjpfaaGreatDoor
open Go.RowKit Go.Sort Go.BigFrame Go.Maps

theorem takeSucc {α β : Type} {l : List α} {n : Nat} {x : α} (f : α → β) (h : l[n]? = some x) : (l.take (n + 1)).map f = (l.take n).map f ++ [f x] := by
  rw [List.take_add_one, h]
  simp
theorem ownHal (x : It) (w : World) (B : Nat) (hB : B ≤ w.heap.size) : Own encI 2 65 B (.slice (some ⟨w.heap.size, 0, none⟩) 2 2) (halI x) (w.alloc (.cells #[.string x.1, .int .i64 (Int.tdiv x.2 2), .string x.1, .int .i64 (x.2 - Int.tdiv x.2 2)] 65)) := by
  have h := World.ownsRow_lit (base := B) (e := 65) (size := 2) w #[.string x.1, .int .i64 (Int.tdiv x.2 2), .string x.1, .int .i64 (x.2 - Int.tdiv x.2 2)] 2 hB (by decide) (by simp)
  unfold Own
  exact h
set_option maxHeartbeats 4000000 in
set_option maxRecDepth 100000 in
theorem lw_YearOrder (l : List (Mon × MoA)) (A : Option Addr) (cap : Nat) (w : World) (hl : l.length ≤ 140737488355328) (hs : InMo w A l) (hT : TbP w) :
    Calls Tryz.prog 7 #[.slice A l.length cap] w fun e w' => e = .returned (.bool true) ∧ Below w.heap.size w w' := by
  obtain ⟨G, hG⟩ : ∃ g, greatB (l.map Prod.fst) = g := ⟨_, rfl⟩
  have HGR : Hid (Calls Tryz.prog 9 #[.slice A l.length cap] w fun e w' => e = .returned (.bool G) ∧ Below w.heap.size w w') := Lib.hid (by rw [← hG]; exact la_greatI l A cap w hl hs)
  have HG := Lib.hid hG
  have HS := Lib.hid hs
  have HT := Lib.hid hT
  have HAW : Hid (∀ W, Below w.heap.size w W → Calls Tryz.prog 10 #[] W fun e w' => e = .returned (.bool true) ∧ Below W.heap.size W w') := Lib.hid (fun W hW => la_awake28 W (hT.below hW))
  clear hG hs hT
  go_enter Tryz.func7, Tryz.ntmps7
  go_wp2_with fail
  refine HGR.out.mono ?_
  rintro e w1 ⟨rfl, hb1⟩
  have HB1 := Lib.hid hb1
  cases G with
  | true =>
    go_wp2_with fail
    refine (HAW.out _ HB1.out).mono ?_
    rintro e w2 ⟨rfl, hb2⟩
    go_wp2
    go_ret
    exact ⟨rfl, bTrans HB1.out hb2⟩
  | false =>
  obtain ⟨hsm, hl30⟩ := (HS.out.below hb1).ok HG.out
  have HSM := Lib.hid hsm
  have HL30 := Lib.hid hl30
  clear hb1 hsm
  obtain ⟨B0, hB0⟩ : ∃ x, w1.heap.size = x := ⟨_, rfl⟩
  have HBE := Lib.hid hB0
  clear hB0
  have hR : MoR B0 (RGr w1 B0) := moRGr w1 B0 (Nat.le_of_eq HBE.out)
  have HR := Lib.hid hR
  clear hR
  go_wp2_with fail
  go_loopg [3, 4] l.length (fun kk ov iv wr => ∃ (sv : Value) (n : Nat) (ps : List (Mon × MoA)), sv = ov ∧ n + kk = l.length ∧ iv = .int .i64 n ∧ Hid (ps.map Prod.fst = (l.take n).map fun p => hal p.1) ∧ Hid (∀ M ∈ (l.take n).map Prod.fst, SmallI M.gr ∧ M.gr.length ≤ 30) ∧ Hid (OwnMs B0 (RGr w1 B0) ov ps wr) ∧ Hid (Below w1.heap.size w1 wr))
  case atStart => exact ⟨_, 0, [], rfl, Nat.zero_add _, rfl, Lib.hid rfl, Lib.hid (fun M h => by simp at h), Lib.hid OwnMs.nil, Lib.hid (Below.refl _ _)⟩
  case round =>
    obtain ⟨ov, n, ps, rfl, hn1, rfl, HPS, HSI, HOW, HBR⟩ := hrel
    have HLP : Hid (ps.length = n) := Lib.hid (by have h := congrArg List.length HPS.out; rw [List.length_map, List.length_map, List.length_take] at h; omega)
    by_cases hlt : n < l.length
    · obtain ⟨b, off, rfl, hB, hc⟩ := (HSM.out.1) (by intro h; simp [h] at hlt)
      obtain ⟨⟨M, MA⟩, hx⟩ : ∃ x, l[n]? = some x := ⟨_, List.getElem?_eq_getElem hlt⟩
      have HM : Hid (MoOk M MA w1) := Lib.hid (HSM.out.2 _ (List.mem_of_getElem? hx))
      have c0 : wr.cell? ⟨b, off + n * 12, none⟩ = some (.int .i64 M.y) := (HBR.out.cell (p := ⟨b, off + n * 12, none⟩) hB).trans (by simpa using hc n _ hx 0 _ rfl)
      have c1 : wr.cell? ⟨b, off + n * 12 + 1, none⟩ = some (.int .i64 M.i) := (HBR.out.cell (p := ⟨b, off + n * 12 + 1, none⟩) hB).trans (hc n _ hx 1 _ rfl)
      have c2 : wr.cell? ⟨b, off + n * 12 + 2, none⟩ = some (.int .i64 M.o) := (HBR.out.cell (p := ⟨b, off + n * 12 + 2, none⟩) hB).trans (hc n _ hx 2 _ rfl)
      have c3 : wr.cell? ⟨b, off + n * 12 + 3, none⟩ = some (.slice MA.gr.1 M.gr.length MA.gr.2) := (HBR.out.cell (p := ⟨b, off + n * 12 + 3, none⟩) hB).trans (hc n _ hx 3 _ rfl)
      have c4 : wr.cell? ⟨b, off + n * 12 + 4, none⟩ = some (.slice MA.be.1 M.be.length MA.be.2) := (HBR.out.cell (p := ⟨b, off + n * 12 + 4, none⟩) hB).trans (hc n _ hx 4 _ rfl)
      have c5 : wr.cell? ⟨b, off + n * 12 + 5, none⟩ = some (.slice MA.af.1 M.af.length MA.af.2) := (HBR.out.cell (p := ⟨b, off + n * 12 + 5, none⟩) hB).trans (hc n _ hx 5 _ rfl)
      have c6 : wr.cell? ⟨b, off + n * 12 + 6, none⟩ = some (.slice MA.li.1 M.li.length MA.li.2) := (HBR.out.cell (p := ⟨b, off + n * 12 + 6, none⟩) hB).trans (hc n _ hx 6 _ rfl)
      have c7 : wr.cell? ⟨b, off + n * 12 + 7, none⟩ = some (.slice MA.sc.1 M.sc.length MA.sc.2) := (HBR.out.cell (p := ⟨b, off + n * 12 + 7, none⟩) hB).trans (hc n _ hx 7 _ rfl)
      have c8 : wr.cell? ⟨b, off + n * 12 + 8, none⟩ = some (.int .i64 M.al) := (HBR.out.cell (p := ⟨b, off + n * 12 + 8, none⟩) hB).trans (hc n _ hx 8 _ rfl)
      have c9 : wr.cell? ⟨b, off + n * 12 + 9, none⟩ = some (.int .i64 M.ex) := (HBR.out.cell (p := ⟨b, off + n * 12 + 9, none⟩) hB).trans (hc n _ hx 9 _ rfl)
      have c10 : wr.cell? ⟨b, off + n * 12 + 10, none⟩ = some (.slice MA.ba.1 M.ba.length MA.ba.2) := (HBR.out.cell (p := ⟨b, off + n * 12 + 10, none⟩) hB).trans (hc n _ hx 10 _ rfl)
      have c11 : wr.cell? ⟨b, off + n * 12 + 11, none⟩ = some (.slice MA.od.1 M.od.length MA.od.2) := (HBR.out.cell (p := ⟨b, off + n * 12 + 11, none⟩) hB).trans (hc n _ hx 11 _ rfl)
      have HG3 : Hid (∀ W, Below w1.heap.size w1 W → W.cell? ⟨b, off + n * 12 + 3, none⟩ = some (.slice MA.gr.1 M.gr.length MA.gr.2)) := Lib.hid (fun W hW => (hW.cell (p := ⟨b, off + n * 12 + 3, none⟩) hB).trans (hc n _ hx 3 _ rfl))
      obtain ⟨mb, hmb⟩ : ∃ y, wr.heap.size = y := ⟨_, rfl⟩
      obtain ⟨wa, hwa⟩ : ∃ y, wr.alloc (.cells #[.int .i64 M.y, .int .i64 M.i, .int .i64 M.o, .slice MA.gr.1 M.gr.length MA.gr.2, .slice MA.be.1 M.be.length MA.be.2, .slice MA.af.1 M.af.length MA.af.2, .slice MA.li.1 M.li.length MA.li.2, .slice MA.sc.1 M.sc.length MA.sc.2, .int .i64 M.al, .int .i64 M.ex, .slice MA.ba.1 M.ba.length MA.ba.2, .slice MA.od.1 M.od.length MA.od.2] 54) = y := ⟨_, rfl⟩
      have hkm : Bk mb 54 (moC M MA) wa := by rw [← hwa, ← hmb]; exact Bk.new _ _ _
      have hba : Below wr.heap.size wr wa := by rw [← hwa]; exact bAlloc wr _
      have HWF := Lib.hid (And.intro hmb hwa)
      have HXL : Hid ((l.take (n + 1)).map (fun p => hal p.1) = (l.take n).map (fun p => hal p.1) ++ [hal M] ∧ (l.take (n + 1)).map Prod.fst = (l.take n).map Prod.fst ++ [M]) := Lib.hid ⟨takeSucc _ hx, takeSucc _ hx⟩
      clear hc hx hmb hwa
      go_upto_region 8 with fail
      rw [HWF.out.2, HWF.out.1]
      clear c0 c1 c2 c3 c4 c5 c6 c7 c8 c9 c10 c11
      obtain ⟨y, hy⟩ : ∃ y, wa.setCell ⟨mb, 3, none⟩ (.slice none 0 0) = y := ⟨_, rfl⟩
      have HKY : Hid (Bk mb 54 #[.int .i64 M.y, .int .i64 M.i, .int .i64 M.o, .slice none 0 0, .slice MA.be.1 M.be.length MA.be.2, .slice MA.af.1 M.af.length MA.af.2, .slice MA.li.1 M.li.length MA.li.2, .slice MA.sc.1 M.sc.length MA.sc.2, .int .i64 M.al, .int .i64 M.ex, .slice MA.ba.1 M.ba.length MA.ba.2, .slice MA.od.1 M.od.length MA.od.2] y) := Lib.hid (by rw [← hy]; exact hkm.set_ 3 _)
      have hkb3 := hkm.cell 3
      have hfz : wa.frozen? ⟨mb, 3, none⟩ = false := hkm.frozen 3
      have HME : Hid (wr.heap.size = mb) := Lib.hid HWF.out.1
      have hmbe := HME.out
      have HBY : Hid (Below wr.heap.size wr y) := Lib.hid (by
        rw [← hy]
        exact hba.setCell (by show wr.heap.size ≤ mb; omega) _)
      have HWG := Lib.hid hy
      have hgr := HM.out.ln.1
      clear hy hkm hba hmbe HWF
      go_upto_region 9 with fail
      rw [HWG.out]
      clear HWG hkb3 hfz
      have g3 := HG3.out y (bTrans HBR.out HBY.out)
      have hw0 : IntKind.i64.wrap ((M.gr.length : Int) - 1) = (M.gr.length : Int) - 1 := by rw [IntKind.wrap_i64]; omega
      go_wp2_with fail
      go_loopg [6] M.gr.length (fun kk kv wz => ∃ (q : Nat) (gg : List It) (A8 : Option Addr) (c8 : Nat), q = kk ∧ q ≤ M.gr.length ∧ kv = .int .i64 ((q : Int) - 1) ∧ Hid (gg = halL (M.gr.drop q) ∧ SmallI (M.gr.drop q) ∧ (q < M.gr.length → M.gr.length ≤ 30) ∧ gg.length = 2 * (M.gr.length - q)) ∧ Hid (Own encI 2 65 wr.heap.size (.slice A8 gg.length c8) gg wz) ∧ Hid (Bk mb 54 #[.int .i64 M.y, .int .i64 M.i, .int .i64 M.o, .slice A8 gg.length c8, .slice MA.be.1 M.be.length MA.be.2, .slice MA.af.1 M.af.length MA.af.2, .slice MA.li.1 M.li.length MA.li.2, .slice MA.sc.1 M.sc.length MA.sc.2, .int .i64 M.al, .int .i64 M.ex, .slice MA.ba.1 M.ba.length MA.ba.2, .slice MA.od.1 M.od.length MA.od.2] wz) ∧ Hid (Below wr.heap.size wr wz))
      case atStart => exact ⟨M.gr.length, [], none, 0, rfl, Nat.le_refl _, by go_num, Lib.hid ⟨by rw [List.drop_length]; rfl, by rw [List.drop_length]; exact fun x hx => absurd hx (by simp), fun h => absurd h (Nat.lt_irrefl _), by simp⟩, Lib.hid (Own.nil _), HKY, HBY⟩
      case round =>
        obtain ⟨q, gg, A8, c8, rfl, hq1, rfl, HGG, HOZ, HKZ, HBZ⟩ := hrel
        rename World => wz
        have HBZ1 : Hid (Below w1.heap.size w1 wz) := Lib.hid (bTrans HBR.out HBZ.out)
        clear HKY HBY g3
        by_cases hq0 : q = 0
        · subst hq0
          have HGE : Hid (gg = halL M.gr ∧ SmallI M.gr ∧ M.gr.length ≤ 30) := Lib.hid ⟨HGG.out.1, HGG.out.2.1, by
            by_cases h : M.gr.length = 0
            · omega
            · exact HGG.out.2.2.1 (by omega)⟩
          have d0 : decide ((0 : Int) ≤ ((0 : Nat) : Int) - 1) = false := by decide
          have HOI : Hid (Own encI 2 65 B0 (.slice A8 gg.length c8) gg wz) := Lib.hid (own_low HOZ.out (by have := HBE.out; have := HBR.out.size; omega))
          have ce0 : wz.cell? ⟨mb, 0, none⟩ = some (.int .i64 M.y) := Bk.cell (HKZ.out) 0
          have ce1 : wz.cell? ⟨mb, 1, none⟩ = some (.int .i64 M.i) := Bk.cell (HKZ.out) 1
          have ce2 : wz.cell? ⟨mb, 2, none⟩ = some (.int .i64 M.o) := Bk.cell (HKZ.out) 2
          have ce3 : wz.cell? ⟨mb, 3, none⟩ = some (.slice A8 gg.length c8) := Bk.cell (HKZ.out) 3
          have ce4 : wz.cell? ⟨mb, 4, none⟩ = some (.slice MA.be.1 M.be.length MA.be.2) := Bk.cell (HKZ.out) 4
          have ce5 : wz.cell? ⟨mb, 5, none⟩ = some (.slice MA.af.1 M.af.length MA.af.2) := Bk.cell (HKZ.out) 5
          have ce6 : wz.cell? ⟨mb, 6, none⟩ = some (.slice MA.li.1 M.li.length MA.li.2) := Bk.cell (HKZ.out) 6
          have ce7 : wz.cell? ⟨mb, 7, none⟩ = some (.slice MA.sc.1 M.sc.length MA.sc.2) := Bk.cell (HKZ.out) 7
          have ce8 : wz.cell? ⟨mb, 8, none⟩ = some (.int .i64 M.al) := Bk.cell (HKZ.out) 8
          have ce9 : wz.cell? ⟨mb, 9, none⟩ = some (.int .i64 M.ex) := Bk.cell (HKZ.out) 9
          have ce10 : wz.cell? ⟨mb, 10, none⟩ = some (.slice MA.ba.1 M.ba.length MA.ba.2) := Bk.cell (HKZ.out) 10
          have ce11 : wz.cell? ⟨mb, 11, none⟩ = some (.slice MA.od.1 M.od.length MA.od.2) := Bk.cell (HKZ.out) 11
          have HGL : Hid (gg.length ≤ 60) := Lib.hid (by rw [HGG.out.2.2.2]; have := HGE.out.2.2; omega)
          have HRX : Hid (RGr w1 B0 (hal M, { MA with gr := (A8, c8) }) wz) := Lib.hid ⟨⟨(show MoOk (noGr M) (noGrA MA) w1 from noGr_ok HM.out), HBZ1.out⟩, ⟨by show (halL M.gr).length ≤ 1000000; rw [← HGE.out.1]; have := HGL.out; omega, fun x hx => by
            obtain ⟨x0, hx0, hh⟩ := halL_mem.1 (show x ∈ halL M.gr from hx)
            have := halI_small (HGE.out.2.1 x0 hx0) hh
            rw [this.1]
            exact HM.out.sz.1 x0 hx0⟩, by
            show Own encI 2 65 B0 (.slice A8 (halL M.gr).length c8) (halL M.gr) wz
            rw [← HGE.out.1]
            exact HOI.out⟩
          have HOW' : Hid (OwnMs B0 (RGr w1 B0) ov ps wz) := Lib.hid (HOW.out.below HR.out HBZ.out)
          have HSZ : Hid (B0 ≤ wz.heap.size ∧ ps.length ≤ 1000) := Lib.hid ⟨by have := HBE.out; have := HBR.out.size; have := HBZ.out.size; omega, by have := HLP.out; have := HL30.out; omega⟩
          have HNW : Hid (∀ j u, (encMo (hal M, { MA with gr := (A8, c8) }))[j]? = some u → (wz.alloc (.cells #[.int .i64 M.y, .int .i64 M.i, .int .i64 M.o, .slice A8 gg.length c8, .slice MA.be.1 M.be.length MA.be.2, .slice MA.af.1 M.af.length MA.af.2, .slice MA.li.1 M.li.length MA.li.2, .slice MA.sc.1 M.sc.length MA.sc.2, .int .i64 M.al, .int .i64 M.ex, .slice MA.ba.1 M.ba.length MA.ba.2, .slice MA.od.1 M.od.length MA.od.2] 54)).cell? ⟨wz.heap.size, j, none⟩ = some u) := Lib.hid (by
            have h := newsMo (hal M, { MA with gr := (A8, c8) }) wz
            have e : moC (hal M) { MA with gr := (A8, c8) } = #[.int .i64 M.y, .int .i64 M.i, .int .i64 M.o, .slice A8 gg.length c8, .slice MA.be.1 M.be.length MA.be.2, .slice MA.af.1 M.af.length MA.af.2, .slice MA.li.1 M.li.length MA.li.2, .slice MA.sc.1 M.sc.length MA.sc.2, .int .i64 M.al, .int .i64 M.ex, .slice MA.ba.1 M.ba.length MA.ba.2, .slice MA.od.1 M.od.length MA.od.2] := by unfold moC hal; rw [HGE.out.1]
            rw [e] at h
            exact h)
          clear hgr
          go_wp2_with ((at_builtin; refine wpList_append_row encMo_len encMo_one rfl _ _ 22 rfl B0 54 _ 208 Tryz.underlying22 moInfo rfl (by decide) _ ps (hal M, { MA with gr := (A8, c8) }) rfl (HOW'.out.1.alloc _) wz.heap.size 1 rfl HNW.out (by have := HSZ.out.2; omega) (by decide) (Nat.le_trans HSZ.out.1 (Grows.of_alloc wz _).size) ?_))
          intro v9 w9 hown9 hgr9
          have hbl : Below wz.heap.size wz (wz.alloc (.cells #[.int .i64 M.y, .int .i64 M.i, .int .i64 M.o, .slice A8 gg.length c8, .slice MA.be.1 M.be.length MA.be.2, .slice MA.af.1 M.af.length MA.af.2, .slice MA.li.1 M.li.length MA.li.2, .slice MA.sc.1 M.sc.length MA.sc.2, .int .i64 M.al, .int .i64 M.ex, .slice MA.ba.1 M.ba.length MA.ba.2, .slice MA.od.1 M.od.length MA.od.2] 54)) := bAlloc _ _
          have hoy := HOW'.out.below HR.out hbl
          have HB9 : Hid (Below w1.heap.size w1 w9) := Lib.hid (belOwn (bTrans HBZ1.out hbl) (Nat.le_of_eq HBE.out) (Nat.le_refl _) hoy.1 hgr9)
          have HO9 : Hid (OwnMs B0 (RGr w1 B0) v9 (ps ++ [(hal M, { MA with gr := (A8, c8) })]) w9) := Lib.hid (hoy.snoc HR.out (HR.out.bel _ _ _ hbl HRX.out) hown9 hgr9)
          have HP9 : Hid ((ps ++ [(hal M, { MA with gr := (A8, c8) })]).map Prod.fst = (l.take (n + 1)).map fun p => hal p.1) := Lib.hid (by rw [List.map_append, HPS.out, HXL.out.1]; rfl)
          have HS9 : Hid (∀ M ∈ (l.take (n + 1)).map Prod.fst, SmallI M.gr ∧ M.gr.length ≤ 30) := Lib.hid (by
            rw [HXL.out.2]
            intro M' hM'
            rcases List.mem_append.1 hM' with h | h
            · exact HSI.out M' h
            · rw [List.mem_singleton.1 h]; exact HGE.out.2)
          clear hown9 hgr9 hbl hoy ce0 ce1 ce2 ce3 ce4 ce5 ce6 ce7 ce8 ce9 ce10 ce11
          go_wp2
          go_roundg (l.length - (n + 1))
          case measure => omega
          case rel => exact ⟨_, n + 1, _, rfl, by omega, by go_num, HP9, HS9, HO9, HB9⟩
        · obtain ⟨k, rfl⟩ : ∃ k, q = k + 1 := ⟨q - 1, by omega⟩
          have ek : ((k + 1 : Nat) : Int) - 1 = (k : Int) := by omega
          rw [ek]
          have dk : decide ((0 : Int) ≤ (k : Int)) = true := decide_eq_true (by omega)
          clear ek
          have hkl : k < M.gr.length := by omega
          obtain ⟨bg, offg, hge, hBg, hcg⟩ := HM.out.gr (by intro h; rw [h] at hkl; simp at hkl)
          obtain ⟨⟨s, c⟩, hx⟩ : ∃ x, M.gr[k]? = some x := ⟨_, List.getElem?_eq_getElem hkl⟩
          have g3 : wz.cell? ⟨b, off + n * 12 + 3, none⟩ = some (.slice (some ⟨bg, offg, none⟩) M.gr.length MA.gr.2) := by rw [← hge]; exact HG3.out wz HBZ1.out
          have G0 : wz.cell? ⟨bg, offg + k * 2, none⟩ = some (.string s) := (HBZ1.out.cell (p := ⟨bg, offg + k * 2, none⟩) hBg).trans (by simpa using hcg k _ hx 0 _ rfl)
          have G1 : wz.cell? ⟨bg, offg + k * 2 + 1, none⟩ = some (.int .i64 c) := (HBZ1.out.cell (p := ⟨bg, offg + k * 2 + 1, none⟩) hBg).trans (hcg k _ hx 1 _ rfl)
          have HDR : Hid (M.gr.drop k = (s, c) :: M.gr.drop (k + 1)) := Lib.hid (drop_get hx)
          obtain ⟨xb, hxb⟩ : ∃ y, wz.heap.size = y := ⟨_, rfl⟩
          obtain ⟨wx, hwx⟩ : ∃ y, wz.alloc (.cells #[.string s, .int .i64 c] 65) = y := ⟨_, rfl⟩
          have HKX : Hid (Bk xb 65 #[.string s, .int .i64 c] wx) := Lib.hid (by rw [← hwx, ← hxb]; exact Bk.new _ _ _)
          have HBX : Hid (Below wz.heap.size wz wx) := Lib.hid (by rw [← hwx]; exact bAlloc wz _)
          have HWF := Lib.hid (And.intro hxb hwx)
          have HB0X : Hid (Below w.heap.size w wx) := Lib.hid (bTrans HB1.out (bTrans HBZ1.out HBX.out))
          clear hcg hx hge hxb hwx
          go_upto_region 13 with fail
          rw [HWF.out.2, HWF.out.1]
          clear HWF g3 G0 G1
          have x0 : wx.cell? ⟨xb, 0, none⟩ = some (.string s) := HKX.out.cell 0
          have x1 : wx.cell? ⟨xb, 1, none⟩ = some (.int .i64 c) := HKX.out.cell 1
          have g3 : wx.cell? ⟨b, off + n * 12 + 3, none⟩ = some (.slice MA.gr.1 M.gr.length MA.gr.2) := HG3.out wx (bTrans HBZ1.out HBX.out)
          go_cut [64] from 48 to 63 (fun a wy => ∃ Bq : Bool, a = .bool Bq ∧ wx = wy ∧ Hid (Bq = false → (-1099511627776 ≤ c ∧ c ≤ 1099511627776) ∧ M.gr.length ≤ 30))
          case first =>
            by_cases h1 : (1099511627776 : Int) < c
            · have d1 : decide ((1099511627776 : Int) < c) = true := decide_eq_true h1
              clear h1
              go_wp2
              go_meet
              exact ⟨true, rfl, rfl, Lib.hid fun h => by cases h⟩
            · have d1 : decide ((1099511627776 : Int) < c) = false := decide_eq_false h1
              by_cases h2 : c < (-1099511627776 : Int)
              · have d2 : decide (c < (-1099511627776 : Int)) = true := decide_eq_true h2
                clear h1 h2
                go_wp2
                go_meet
                exact ⟨true, rfl, rfl, Lib.hid fun h => by cases h⟩
              · have d2 : decide (c < (-1099511627776 : Int)) = false := decide_eq_false h2
                by_cases h3 : 30 < M.gr.length
                · have d3 : decide ((30 : Int) < (M.gr.length : Int)) = true := decide_eq_true (by omega)
                  clear h1 h2 h3
                  go_wp2
                  go_meet
                  exact ⟨true, rfl, rfl, Lib.hid fun h => by cases h⟩
                · have d3 : decide ((30 : Int) < (M.gr.length : Int)) = false := decide_eq_false (by omega)
                  have HC : Hid ((-1099511627776 ≤ c ∧ c ≤ 1099511627776) ∧ M.gr.length ≤ 30) := Lib.hid (by omega)
                  clear h1 h2 h3
                  go_wp2
                  go_meet
                  exact ⟨false, rfl, rfl, Lib.hid fun _ => HC.out⟩
          case rest =>
          obtain ⟨Bq, rfl, rfl, HC⟩ := hcut
          cases Bq with
          | true =>
            go_wp2_with (go_at_call 10; refine (HAW.out _ HB0X.out).mono ?_; rintro e w6 ⟨rfl, hb6⟩)
            go_ret
            exact ⟨rfl, bTrans HB0X.out hb6⟩
          | false =>
          obtain ⟨hcb, hg30⟩ := HC.out rfl
          obtain ⟨t, ht⟩ : ∃ t, Int.tdiv c 2 = t := ⟨_, rfl⟩
          have htb : -1099511627776 ≤ t ∧ t ≤ 1099511627776 := by have h := tdiv2 c; omega
          have wt : IntKind.i64.wrap t = t := by rw [IntKind.wrap_i64]; omega
          have wct : IntKind.i64.wrap (c - t) = c - t := by rw [IntKind.wrap_i64]; omega
          have HKZX : Hid (Bk mb 54 #[.int .i64 M.y, .int .i64 M.i, .int .i64 M.o, .slice A8 gg.length c8, .slice MA.be.1 M.be.length MA.be.2, .slice MA.af.1 M.af.length MA.af.2, .slice MA.li.1 M.li.length MA.li.2, .slice MA.sc.1 M.sc.length MA.sc.2, .int .i64 M.al, .int .i64 M.ex, .slice MA.ba.1 M.ba.length MA.ba.2, .slice MA.od.1 M.od.length MA.od.2] wx) := Lib.hid (bkBel HKZ.out HBX.out)
          have z3 : wx.cell? ⟨mb, 3, none⟩ = some (.slice A8 gg.length c8) := HKZX.out.cell 3
          obtain ⟨wl, hwl⟩ : ∃ y, wx.alloc (.cells #[.string s, .int .i64 t, .string s, .int .i64 (c - t)] 65) = y := ⟨_, rfl⟩
          have HBL : Hid (Below wx.heap.size wx wl) := Lib.hid (by rw [← hwl]; exact bAlloc wx _)
          have HOL : Hid (Own encI 2 65 wx.heap.size (.slice (some ⟨wx.heap.size, 0, none⟩) 2 2) (halI (s, c)) wl) := Lib.hid (by rw [← hwl, ← ht]; exact ownHal (s, c) wx _ (Nat.le_refl _))
          have HOZL : Hid (Own encI 2 65 wr.heap.size (.slice A8 gg.length c8) gg wl) := Lib.hid (ownBel (ownBel HOZ.out HBX.out) HBL.out)
          have HKZL : Hid (Bk mb 54 #[.int .i64 M.y, .int .i64 M.i, .int .i64 M.o, .slice A8 gg.length c8, .slice MA.be.1 M.be.length MA.be.2, .slice MA.af.1 M.af.length MA.af.2, .slice MA.li.1 M.li.length MA.li.2, .slice MA.sc.1 M.sc.length MA.sc.2, .int .i64 M.al, .int .i64 M.ex, .slice MA.ba.1 M.ba.length MA.ba.2, .slice MA.od.1 M.od.length MA.od.2] wl) := Lib.hid (bkBel HKZX.out HBL.out)
          have HBZL : Hid (Below wr.heap.size wr wl) := Lib.hid (bTrans (bTrans HBZ.out HBX.out) HBL.out)
          have HGG2 : Hid (gg ++ halI (s, c) = halL (M.gr.drop k) ∧ SmallI (M.gr.drop k) ∧ (k < M.gr.length → M.gr.length ≤ 30) ∧ (gg ++ halI (s, c)).length = 2 * (M.gr.length - k)) := Lib.hid ⟨by rw [HDR.out, HGG.out.1]; rfl, by
            rw [HDR.out]
            intro x hx
            rcases List.mem_cons.1 hx with rfl | hx
            · exact hcb
            · exact HGG.out.2.1 x hx, fun _ => hg30, by
            rw [List.length_append, HGG.out.2.2.2]
            show _ + 2 = _
            omega⟩
          have HSZ : Hid (gg.length + (halI (s, c)).length ≤ 1000000000) := Lib.hid (by rw [HGG.out.2.2.2]; show _ + 2 ≤ _; omega)
          have HWL := Lib.hid hwl
          have HTT := Lib.hid ht
          clear hwl hcb hg30 htb HC g3
          go_wp2_with ((at_builtin; rw [HWL.out]; refine wpList_append_rows encI_len encI_one rfl _ _ 46 rfl wr.heap.size wx.heap.size 65 _ 24 Tryz.underlying46 itemInfo rfl (by decide) _ _ gg (halI (s, c)) rfl HOZL.out rfl HOL.out HSZ.out (by decide) HBZL.out.size ?_))
          intro v8 w8 ho8 hg8
          obtain ⟨A9, c9, hv8, _⟩ := own_Sl encI_len ho8
          subst hv8
          have hk8 : Bk mb 54 #[.int .i64 M.y, .int .i64 M.i, .int .i64 M.o, .slice A8 gg.length c8, .slice MA.be.1 M.be.length MA.be.2, .slice MA.af.1 M.af.length MA.af.2, .slice MA.li.1 M.li.length MA.li.2, .slice MA.sc.1 M.sc.length MA.sc.2, .int .i64 M.al, .int .i64 M.ex, .slice MA.ba.1 M.ba.length MA.ba.2, .slice MA.od.1 M.od.length MA.od.2] w8 := HKZL.out.grownBy hg8 (HOZL.out.ne_ (g := mb) HKZL.out (by decide))
          have hfz : w8.frozen? ⟨mb, 3, none⟩ = false := hk8.frozen 3
          have hk83 : w8.cell? ⟨mb, 3, none⟩ = some (.slice A8 gg.length c8) := hk8.cell 3
          obtain ⟨g2, hg2⟩ : ∃ x, gg ++ halI (s, c) = x := ⟨_, rfl⟩
          rw [hg2] at ho8 HGG2 ⊢
          obtain ⟨y2, hy2⟩ : ∃ y, w8.setCell ⟨mb, 3, none⟩ (.slice A9 g2.length c9) = y := ⟨_, rfl⟩
          have HKY2 : Hid (Bk mb 54 #[.int .i64 M.y, .int .i64 M.i, .int .i64 M.o, .slice A9 g2.length c9, .slice MA.be.1 M.be.length MA.be.2, .slice MA.af.1 M.af.length MA.af.2, .slice MA.li.1 M.li.length MA.li.2, .slice MA.sc.1 M.sc.length MA.sc.2, .int .i64 M.al, .int .i64 M.ex, .slice MA.ba.1 M.ba.length MA.ba.2, .slice MA.od.1 M.od.length MA.od.2] y2) := Lib.hid (by rw [← hy2]; exact hk8.set_ 3 _)
          have HOY2 : Hid (Own encI 2 65 wr.heap.size (.slice A9 g2.length c9) g2 y2) := Lib.hid (by
            rw [← hy2]
            exact ho8.kept (grownSet w8 mb 3 _) (.inr (Ne.symm (ho8.ne_ (g := mb) hk8 (by decide)))))
          have hme := HME.out
          have HBY2 : Hid (Below wr.heap.size wr y2) := Lib.hid (by
            rw [← hy2]
            exact (belOwn HBZL.out (Nat.le_refl _) (Nat.le_refl _) HOZL.out hg8).setCell (by show wr.heap.size ≤ mb; omega) _)
          have HYE := Lib.hid hy2
          clear ho8 hg8 hk8 hy2 hg2 hme x0 x1 z3 ht
          go_upto_region 11 with fail
          rw [HYE.out]
          clear HYE hfz hk83
          have wk : IntKind.i64.wrap ((k : Int) - 1) = (k : Int) - 1 := by rw [IntKind.wrap_i64]; omega
          go_wp2
          go_roundg k
          case measure => omega
          case rel => exact ⟨k, g2, A9, c9, rfl, by omega, by go_num, HGG2, HOY2, HKY2, HBY2⟩
    · obtain rfl : n = l.length := by omega
      have hrow := HOW.out.row HR.out
      obtain ⟨A7, c7, rfl, hsm7, _⟩ := hrow
      have HSM7 := Lib.hid hsm7
      have HPM : Hid (ps.map Prod.fst = (l.map Prod.fst).map hal) := Lib.hid (by rw [HPS.out, List.take_length, List.map_map]; rfl)
      have HBW : Hid (Below w.heap.size w wr) := Lib.hid (bTrans HB1.out HBR.out)
      have HOF := Lib.hid (order_fold (l.map Prod.fst) (by have h := HSI.out; rw [List.take_length] at h; exact h))
      obtain ⟨⟨slA, SR, eA⟩, hRA⟩ : ∃ R, foldM (l.map Prod.fst) = R := ⟨_, rfl⟩
      obtain ⟨⟨slB, SU, eB⟩, hRB⟩ : ∃ R, foldM (ps.map Prod.fst) = R := ⟨_, rfl⟩
      have HFA : Hid (Calls Tryz.prog 11 #[.slice A l.length cap] wr fun e w' => ResF (slA, SR, eA) 1572864 wr e w') := Lib.hid (by rw [← hRA]; exact yr_Fold l A cap wr (by have := HL30.out; omega) (HSM.out.below HBR.out) (HT.out.below HBW.out).tb)
      have HFB : Hid (∀ W, Below wr.heap.size wr W → Calls Tryz.prog 11 #[.slice A7 ps.length c7] W fun e w' => ResF (slB, SU, eB) 1572864 W e w') := Lib.hid (fun W hW => by rw [← hRB]; exact yr_Fold ps A7 c7 W (by have := HL30.out; have := HLP.out; omega) (HSM7.out.below hW) ((HT.out.below HBW.out).below hW).tb)
      have HEQ : Hid ((eA = 0 ↔ eB = 0) ∧ slA = slB ∧ SR = SU) := Lib.hid (by
        have h := HOF.out
        rw [← HPM.out, hRA, hRB] at h
        exact h)
      have HRB : Hid (StB 1572864 SR ∧ StB 1572864 SU) := Lib.hid (by
        have h1 := fold_StB (l.map Prod.fst)
        have h2 := fold_StB (ps.map Prod.fst)
        rw [hRA] at h1
        rw [hRB] at h2
        exact ⟨h1, h2⟩)
      have H448 : Hid (∀ x ∈ slA, x.2.2.length ≤ 448) := Lib.hid (fun x hx => (slpE_fit (nets_fold (l.map Prod.fst) x (by rw [hRA]; exact hx)).1).1)
      have HCN : Hid (slA.length ≤ 30) := Lib.hid (by
        have h := resGo_cnt Ste.none (l.map Prod.fst) Ste.none []
        have e : foldM (l.map Prod.fst) = resGo Ste.none Ste.none [] (l.map Prod.fst) := by unfold foldM resM; rw [if_neg (by rw [List.length_map]; have := HL30.out; omega)]
        rw [← e, hRA] at h
        simp only [List.length_nil, List.length_map] at h
        have := HL30.out
        omega)
      clear hRA hRB hsm7 HLP
      go_wp2_with fail
      refine HFA.out.mono ?_
      rintro e w2 ⟨⟨vb, vs, vo⟩, sv, rs, hee, hrs, hos, hst, hb2⟩
      obtain ⟨m1, h1⟩ := hst.be.form
      obtain ⟨m2, h2⟩ := hst.so.form
      obtain ⟨m3, h3⟩ := hst.od.form
      dsimp only at h1 h2 h3
      subst h1 h2 h3
      obtain ⟨A3, c3, rfl, _⟩ := own_Sl encSl_len hos.1
      replace hee : e = .returned (.tuple #[.slice A3 rs.length c3, .agg #[.int .i64 SR.y, .int .i64 SR.i, .int .i64 SR.o, .map m1, .map m2, .int .i64 SR.tb, .int .i64 SR.tt, .map m3], .int .i64 eA]) := hee
      subst hee
      obtain ⟨tb9, htb⟩ : ∃ x, w2.heap.size = x := ⟨_, rfl⟩
      obtain ⟨w3, hw3⟩ : ∃ x, w2.alloc (.cells #[.int .i64 SR.y, .int .i64 SR.i, .int .i64 SR.o, .map m1, .map m2, .int .i64 SR.tb, .int .i64 SR.tt, .map m3] 33) = x := ⟨_, rfl⟩
      have g3 : Below w2.heap.size w2 w3 := by rw [← hw3]; exact bAlloc _ _
      have HK9 : Hid (Bk tb9 33 #[.int .i64 SR.y, .int .i64 SR.i, .int .i64 SR.o, .map m1, .map m2, .int .i64 SR.tb, .int .i64 SR.tt, .map m3] w3) := Lib.hid (by rw [← hw3, ← htb]; exact Bk.new _ _ _)
      have HOS : Hid (rs.map Prod.fst = slA ∧ OwnSl wr.heap.size (.slice A3 rs.length c3) rs w3) := Lib.hid ⟨hrs, hos.below g3⟩
      have HSR : Hid (StOk SR ⟨.map m1, .map m2, .map m3⟩ 1572864 w3) := Lib.hid (hst.below g3)
      have HBS : Hid (Below wr.heap.size wr w3) := Lib.hid (bTrans hb2 g3)
      have HWF : Hid (w2.heap.size = tb9 ∧ w2.alloc (.cells #[.int .i64 SR.y, .int .i64 SR.i, .int .i64 SR.o, .map m1, .map m2, .int .i64 SR.tb, .int .i64 SR.tt, .map m3] 33) = w3) := Lib.hid ⟨htb, hw3⟩
      clear hrs hos hst hb2 g3 htb hw3 HFA
      go_upto_region 18 with fail
      rw [HWF.out.2, HWF.out.1]
      clear HWF
      have HFB2 := Lib.hid (HFB.out w3 HBS.out)
      clear HFB
      go_wp2_with fail
      refine HFB2.out.mono ?_
      rintro e w4 ⟨⟨vb, vs, vo⟩, sv, rt, hee, hrs, hos, hst, hb2⟩
      obtain ⟨p1, h1⟩ := hst.be.form
      obtain ⟨p2, h2⟩ := hst.so.form
      obtain ⟨p3, h3⟩ := hst.od.form
      dsimp only at h1 h2 h3
      subst h1 h2 h3
      obtain ⟨A4, c4, rfl, _⟩ := own_Sl encSl_len hos.1
      replace hee : e = .returned (.tuple #[.slice A4 rt.length c4, .agg #[.int .i64 SU.y, .int .i64 SU.i, .int .i64 SU.o, .map p1, .map p2, .int .i64 SU.tb, .int .i64 SU.tt, .map p3], .int .i64 eB]) := hee
      subst hee
      obtain ⟨tb12, htb⟩ : ∃ x, w4.heap.size = x := ⟨_, rfl⟩
      obtain ⟨w5, hw3⟩ : ∃ x, w4.alloc (.cells #[.int .i64 SU.y, .int .i64 SU.i, .int .i64 SU.o, .map p1, .map p2, .int .i64 SU.tb, .int .i64 SU.tt, .map p3] 33) = x := ⟨_, rfl⟩
      have g3 : Below w4.heap.size w4 w5 := by rw [← hw3]; exact bAlloc _ _
      have HK12 : Hid (Bk tb12 33 #[.int .i64 SU.y, .int .i64 SU.i, .int .i64 SU.o, .map p1, .map p2, .int .i64 SU.tb, .int .i64 SU.tt, .map p3] w5) := Lib.hid (by rw [← hw3, ← htb]; exact Bk.new _ _ _)
      have HOT : Hid (rt.map Prod.fst = slB ∧ OwnSl w3.heap.size (.slice A4 rt.length c4) rt w5) := Lib.hid ⟨hrs, hos.below g3⟩
      have HSU : Hid (StOk SU ⟨.map p1, .map p2, .map p3⟩ 1572864 w5) := Lib.hid (hst.below g3)
      have HBU : Hid (Below w3.heap.size w3 w5) := Lib.hid (bTrans hb2 g3)
      have HWF : Hid (w4.heap.size = tb12 ∧ w4.alloc (.cells #[.int .i64 SU.y, .int .i64 SU.i, .int .i64 SU.o, .map p1, .map p2, .int .i64 SU.tb, .int .i64 SU.tt, .map p3] 33) = w5) := Lib.hid ⟨htb, hw3⟩
      clear hrs hos hst hb2 g3 htb hw3 HFB2
      go_upto_region 19 with fail
      rw [HWF.out.2, HWF.out.1]
      clear HWF
      have HB5 : Hid (Below w.heap.size w w5) := Lib.hid (bTrans (bTrans HBW.out HBS.out) HBU.out)
      obtain ⟨BE, hBE⟩ : ∃ x, (eA == 0) = x := ⟨_, rfl⟩
      have HEB : Hid ((eA == 0) = BE ∧ (eB == 0) = BE) := Lib.hid ⟨hBE, by
        rw [← hBE]
        have h := HEQ.out.1
        by_cases e : eA = 0
        · rw [e, h.1 e]
        · have e2 : ¬ eB = 0 := fun x => e (h.2 x)
          rw [beq_eq_false_iff_ne.2 e, beq_eq_false_iff_ne.2 e2]⟩
      have HLN : Hid (rs.length ≤ 30 ∧ rt.length = rs.length) := Lib.hid (by
        have h1 := congrArg List.length HEQ.out.2.1
        have h2 := HCN.out
        rw [← HOS.out.1, ← HOT.out.1, List.length_map, List.length_map] at h1
        rw [← HOS.out.1, List.length_map] at h2
        omega)
      obtain ⟨TX, hTX⟩ : ∃ t, txM SR = t := ⟨_, rfl⟩
      have HKR : Hid (∀ W, Below w5.heap.size w5 W → W.cell? ⟨tb9, 0, none⟩ = some (.int .i64 SR.y) ∧ W.cell? ⟨tb9, 1, none⟩ = some (.int .i64 SR.i) ∧ W.cell? ⟨tb9, 2, none⟩ = some (.int .i64 SR.o) ∧ W.cell? ⟨tb9, 3, none⟩ = some (.map m1) ∧ W.cell? ⟨tb9, 4, none⟩ = some (.map m2) ∧ W.cell? ⟨tb9, 5, none⟩ = some (.int .i64 SR.tb) ∧ W.cell? ⟨tb9, 6, none⟩ = some (.int .i64 SR.tt) ∧ W.cell? ⟨tb9, 7, none⟩ = some (.map m3)) := Lib.hid (fun W hW => by
        have h := bkBel HK9.out (bTrans HBU.out hW)
        exact ⟨h.cell 0, h.cell 1, h.cell 2, h.cell 3, h.cell 4, h.cell 5, h.cell 6, h.cell 7⟩)
      have HKU : Hid (∀ W, Below w5.heap.size w5 W → W.cell? ⟨tb12, 0, none⟩ = some (.int .i64 SU.y) ∧ W.cell? ⟨tb12, 1, none⟩ = some (.int .i64 SU.i) ∧ W.cell? ⟨tb12, 2, none⟩ = some (.int .i64 SU.o) ∧ W.cell? ⟨tb12, 3, none⟩ = some (.map p1) ∧ W.cell? ⟨tb12, 4, none⟩ = some (.map p2) ∧ W.cell? ⟨tb12, 5, none⟩ = some (.int .i64 SU.tb) ∧ W.cell? ⟨tb12, 6, none⟩ = some (.int .i64 SU.tt) ∧ W.cell? ⟨tb12, 7, none⟩ = some (.map p3)) := Lib.hid (fun W hW => by
        have h := bkBel HK12.out hW
        exact ⟨h.cell 0, h.cell 1, h.cell 2, h.cell 3, h.cell 4, h.cell 5, h.cell 6, h.cell 7⟩)
      have HTR : Hid (∀ W, Below w5.heap.size w5 W → Calls Tryz.prog 15 #[.agg #[.int .i64 SR.y, .int .i64 SR.i, .int .i64 SR.o, .map m1, .map m2, .int .i64 SR.tb, .int .i64 SR.tt, .map m3]] W fun e w' => e = .returned (.string TX) ∧ Below W.heap.size W w') := Lib.hid (fun W hW => by
        rw [← hTX]
        exact yr_TextB SR ⟨.map m1, .map m2, .map m3⟩ 1572864 W (HSR.out.below (bTrans HBU.out hW)) (by omega) HRB.out.1 ((HT.out.below HB5.out).below hW))
      have HTU : Hid (∀ W, Below w5.heap.size w5 W → Calls Tryz.prog 15 #[.agg #[.int .i64 SU.y, .int .i64 SU.i, .int .i64 SU.o, .map p1, .map p2, .int .i64 SU.tb, .int .i64 SU.tt, .map p3]] W fun e w' => e = .returned (.string TX) ∧ Below W.heap.size W w') := Lib.hid (fun W hW => by
        rw [← hTX, HEQ.out.2.2]
        exact yr_TextB SU ⟨.map p1, .map p2, .map p3⟩ 1572864 W (HSU.out.below hW) (by omega) HRB.out.2 ((HT.out.below HB5.out).below hW))
      clear hTX hBE
      go_cut [120] from 102 to 119 (fun a wy => a = .bool false ∧ Hid (Below w5.heap.size w5 wy))
      case first =>
        refine wp_region_mk (SPS [(10, Sp.val (.int .i64 eA)), (13, Sp.val (.int .i64 eB)), (8, Sp.val (.slice A3 rs.length c3)), (11, Sp.val (.slice A4 rt.length c4)), (9, Sp.val (.pointer (some ⟨tb9, 0, none⟩))), (12, Sp.val (.pointer (some ⟨tb12, 0, none⟩))), (103, Sp.val (.bool BE)), (105, Sp.val (.bool BE)), (106, Sp.val (.bool false)), (109, Sp.val (.int .i64 rs.length)), (111, Sp.val (.int .i64 rs.length)), (112, Sp.val (.bool false)), (115, Sp.val (.agg #[.int .i64 SR.y, .int .i64 SR.i, .int .i64 SR.o, .map m1, .map m2, .int .i64 SR.tb, .int .i64 SR.tt, .map m3])), (116, Sp.val (.string TX)), (117, Sp.val (.agg #[.int .i64 SU.y, .int .i64 SU.i, .int .i64 SU.o, .map p1, .map p2, .int .i64 SU.tb, .int .i64 SU.tt, .map p3])), (118, Sp.val (.string TX)), (119, Sp.val (.bool false)), (102, Sp.val (.int .i64 eA)), (104, Sp.val (.int .i64 eB)), (107, Sp.val (.bool false)), (108, Sp.val (.slice A3 rs.length c3)), (110, Sp.val (.slice A4 rt.length c4)), (113, Sp.val (.bool false)), (114, Sp.val (.bool false)), (120, Sp.val (.bool false))]) [] [102, 103, 104, 105, 106, 107, 108, 109, 110, 111, 112, 113, 114, 115, 116, 117, 118, 119, 120] rfl (by rfl) (by kernel_rfl) (SPS.st _) ?_ ?_ ?_ (by decide) (by rfl) ?_ (opsK_all ?_) ?_
        · exact nil_all
        · exact nil_all
        · exact nil_all
        · exact sps_start (cons_all rfl (cons_all rfl (cons_all rfl (cons_all rfl (cons_all rfl (cons_all rfl (nil_all)))))))
        · refine opsK_cons (by
           exact kind_n (opOk_move rfl rfl (.inl rfl) (by kernel_rfl) (fun _ _ h => sps rfl (h.get rfl))) (by decide)) ?_
          refine opsK_cons (by
           exact kind_n (opOk_run rfl (.inl rfl) (fun a W hW hsp => by
              have e102 : a.eval (.tmp 102) = .int .i64 eA := (hsp 102 (by kernel_rfl)).get rfl
              have hd := HEB.out.1
              refine ⟨.bool BE, ?_, sps rfl rfl⟩
              unfold execOp
              simp only [e102]
              go_simp)) (by decide)) ?_
          refine opsK_cons (by
           exact kind_n (opOk_move rfl rfl (.inl rfl) (by kernel_rfl) (fun _ _ h => sps rfl (h.get rfl))) (by decide)) ?_
          refine opsK_cons (by
           exact kind_n (opOk_run rfl (.inl rfl) (fun a W hW hsp => by
              have e104 : a.eval (.tmp 104) = .int .i64 eB := (hsp 104 (by kernel_rfl)).get rfl
              have hd := HEB.out.2
              refine ⟨.bool BE, ?_, sps rfl rfl⟩
              unfold execOp
              simp only [e104]
              go_simp)) (by decide)) ?_
          refine opsK_cons (by
           exact kind_n (opOk_run rfl (.inl rfl) (fun a W hW hsp => by
              have e103 : a.eval (.tmp 103) = .bool BE := (hsp 103 (by kernel_rfl)).get rfl
              have e105 : a.eval (.tmp 105) = .bool BE := (hsp 105 (by kernel_rfl)).get rfl
              refine ⟨.bool false, ?_, sps rfl rfl⟩
              unfold execOp
              simp only [e103, e105]
              cases BE <;> go_simp)) (by decide)) ?_
          refine opsK_cons (by
           exact kind_n (opOk_move rfl rfl (.inl rfl) (by kernel_rfl) (fun _ _ h => sps rfl (h.get rfl))) (by decide)) ?_
          refine opsK_cons (by
           exact kind_n (opOk_move rfl rfl (.inr ⟨5, 107, false, rfl, rfl, (by kernel_rfl), fun _ _ h => h.get rfl⟩) (by kernel_rfl) (fun _ _ h => sps rfl (h.get rfl))) (by decide)) ?_
          refine opsK_cons (by
           exact kind_n (opOk_run rfl (.inr ⟨5, 107, false, rfl, rfl, (by kernel_rfl), fun _ _ h => h.get rfl⟩) (fun a W hW hsp => by
              have e108 : a.eval (.tmp 108) = .slice A3 rs.length c3 := (hsp 108 (by kernel_rfl)).get rfl
              have g108 : a.tmps[108]?.getD undef = .slice A3 rs.length c3 := by (have h := e108; simp only [Act.eval, Array.getD_eq_getD_getElem?] at h; exact h)
              refine ⟨.int .i64 rs.length, ?_, sps rfl rfl⟩
              unfold execOp
              go_simp)) (by decide)) ?_
          refine opsK_cons (by
           exact kind_n (opOk_move rfl rfl (.inr ⟨5, 107, false, rfl, rfl, (by kernel_rfl), fun _ _ h => h.get rfl⟩) (by kernel_rfl) (fun _ _ h => sps rfl (h.get rfl))) (by decide)) ?_
          refine opsK_cons (by
           exact kind_n (opOk_run rfl (.inr ⟨5, 107, false, rfl, rfl, (by kernel_rfl), fun _ _ h => h.get rfl⟩) (fun a W hW hsp => by
              have e110 : a.eval (.tmp 110) = .slice A4 rt.length c4 := (hsp 110 (by kernel_rfl)).get rfl
              have g110 : a.tmps[110]?.getD undef = .slice A4 rt.length c4 := by (have h := e110; simp only [Act.eval, Array.getD_eq_getD_getElem?] at h; exact h)
              have hl := HLN.out.2
              refine ⟨.int .i64 rs.length, ?_, sps rfl rfl⟩
              unfold execOp
              go_simp)) (by decide)) ?_
          refine opsK_cons (by
           exact kind_n (opOk_run rfl (.inr ⟨5, 107, false, rfl, rfl, (by kernel_rfl), fun _ _ h => h.get rfl⟩) (fun a W hW hsp => by
              have e109 : a.eval (.tmp 109) = .int .i64 rs.length := (hsp 109 (by kernel_rfl)).get rfl
              have e111 : a.eval (.tmp 111) = .int .i64 rs.length := (hsp 111 (by kernel_rfl)).get rfl
              refine ⟨.bool false, ?_, sps rfl rfl⟩
              unfold execOp
              simp only [e109, e111]
              go_simp)) (by decide)) ?_
          refine opsK_cons (by
           exact kind_n (opOk_run rfl (.inl rfl) (fun a W hW hsp => by
              have e107 : a.eval (.tmp 107) = .bool false := (hsp 107 (by kernel_rfl)).get rfl
              have e112 : a.eval (.tmp 112) = .bool false := (hsp 112 (by kernel_rfl)).get rfl
              refine ⟨.bool false, ?_, sps rfl rfl⟩
              unfold execOp
              simp only [e107, e112]
              go_simp)) (by decide)) ?_
          refine opsK_cons (by
           exact kind_n (opOk_move rfl rfl (.inl rfl) (by kernel_rfl) (fun _ _ h => sps rfl (h.get rfl))) (by decide)) ?_
          refine opsK_cons (by
           exact kind_n (opOk_load (p := ⟨tb9, 0, none⟩) rfl rfl (.inr ⟨12, 114, false, rfl, rfl, (by kernel_rfl), fun _ _ h => h.get rfl⟩) (by kernel_rfl) (fun _ _ h => h.get rfl) (fun W hW => by
              obtain ⟨q0, q1, q2, q3, q4, q5, q6, q7⟩ := HKR.out W hW
              exact ⟨.agg #[.int .i64 SR.y, .int .i64 SR.i, .int .i64 SR.o, .map m1, .map m2, .int .i64 SR.tb, .int .i64 SR.tt, .map m3], by go_simp, sps rfl rfl⟩)) (by decide)) ?_
          refine opsK_cons (by
           exact kind_n (opOk_callg (fun a => #[a.eval (.tmp 115)]) rfl rfl (.inr ⟨12, 114, false, rfl, rfl, (by kernel_rfl), fun _ _ h => h.get rfl⟩) (fun a => by simp only [List.map_toArray, List.map_cons, List.map_nil] <;> rfl) (fun args W => by go_simp) (fun a W hW hsp => by
              have e115 : a.eval (.tmp 115) = .agg #[.int .i64 SR.y, .int .i64 SR.i, .int .i64 SR.o, .map m1, .map m2, .int .i64 SR.tb, .int .i64 SR.tt, .map m3] := (hsp 115 (by kernel_rfl)).get rfl
              simp only [e115]
              exact (HTR.out W hW).mono fun e w' ⟨he, hb⟩ => ⟨_, he, hb, sps rfl rfl⟩)) (by decide)) ?_
          refine opsK_cons (by
           exact kind_n (opOk_load (p := ⟨tb12, 0, none⟩) rfl rfl (.inr ⟨12, 114, false, rfl, rfl, (by kernel_rfl), fun _ _ h => h.get rfl⟩) (by kernel_rfl) (fun _ _ h => h.get rfl) (fun W hW => by
              obtain ⟨q0, q1, q2, q3, q4, q5, q6, q7⟩ := HKU.out W hW
              exact ⟨.agg #[.int .i64 SU.y, .int .i64 SU.i, .int .i64 SU.o, .map p1, .map p2, .int .i64 SU.tb, .int .i64 SU.tt, .map p3], by go_simp, sps rfl rfl⟩)) (by decide)) ?_
          refine opsK_cons (by
           exact kind_n (opOk_callg (fun a => #[a.eval (.tmp 117)]) rfl rfl (.inr ⟨12, 114, false, rfl, rfl, (by kernel_rfl), fun _ _ h => h.get rfl⟩) (fun a => by simp only [List.map_toArray, List.map_cons, List.map_nil] <;> rfl) (fun args W => by go_simp) (fun a W hW hsp => by
              have e117 : a.eval (.tmp 117) = .agg #[.int .i64 SU.y, .int .i64 SU.i, .int .i64 SU.o, .map p1, .map p2, .int .i64 SU.tb, .int .i64 SU.tt, .map p3] := (hsp 117 (by kernel_rfl)).get rfl
              simp only [e117]
              exact (HTU.out W hW).mono fun e w' ⟨he, hb⟩ => ⟨_, he, hb, sps rfl rfl⟩)) (by decide)) ?_
          refine opsK_cons (by
           exact kind_n (opOk_run rfl (.inr ⟨12, 114, false, rfl, rfl, (by kernel_rfl), fun _ _ h => h.get rfl⟩) (fun a W hW hsp => by
              have e116 : a.eval (.tmp 116) = .string TX := (hsp 116 (by kernel_rfl)).get rfl
              have e118 : a.eval (.tmp 118) = .string TX := (hsp 118 (by kernel_rfl)).get rfl
              refine ⟨.bool false, ?_, sps rfl rfl⟩
              unfold execOp
              simp only [e116, e118]
              go_simp)) (by decide)) ?_
          refine opsK_cons (by
           exact kind_n (opOk_run rfl (.inl rfl) (fun a W hW hsp => by
              have e114 : a.eval (.tmp 114) = .bool false := (hsp 114 (by kernel_rfl)).get rfl
              have e119 : a.eval (.tmp 119) = .bool false := (hsp 119 (by kernel_rfl)).get rfl
              refine ⟨.bool false, ?_, sps rfl rfl⟩
              unfold execOp
              simp only [e114, e119]
              go_simp)) (by decide)) ?_
          exact opsK_nil
        · intro vs W hb hsp _
          have z120 := (hsp 120).get rfl
          simp only [putAll]
          go_simp
          go_step
          go_meet
          exact ⟨z120, Lib.hid hb⟩
      case rest =>
      obtain ⟨rfl, HBY⟩ := hcut
      rename World => wy
      have hl30a := HLN.out.1
      have hl30b : rs.length ≤ 1000000 := by omega
      go_wp2_with fail
      go_loopg [14] rs.length (fun kk jv wv => ∃ (j : Nat), j + kk = rs.length ∧ jv = .int .i64 j ∧ Hid (Below w5.heap.size w5 wv))
      case atStart => exact ⟨0, Nat.zero_add _, rfl, HBY⟩
      case round =>
        obtain ⟨j, hj, rfl, HBV⟩ := hrel
        rename World => wv
        by_cases hlt : j < rs.length
        · have hrl : j < rt.length := by have := HLN.out.2; omega
          obtain ⟨ga, capa, hea, _, hrwa⟩ := HOS.out.2.1.row encSl_len (by intro h; simp [h] at hlt)
          obtain ⟨gb, capb, heb, _, hrwb⟩ := HOT.out.2.1.row encSl_len (by intro h; simp [h] at hrl)
          have haa : A3 = some ⟨ga, 0, none⟩ := by injection hea
          have hab : A4 = some ⟨gb, 0, none⟩ := by injection heb
          clear hea heb
          subst haa hab
          obtain ⟨⟨⟨y5, i5, l5⟩, A5, c5⟩, hxa⟩ : ∃ x, rs[j]? = some x := ⟨_, List.getElem?_eq_getElem hlt⟩
          obtain ⟨⟨⟨y6, i6, l6⟩, A6, c6⟩, hxb⟩ : ∃ x, rt[j]? = some x := ⟨_, List.getElem?_eq_getElem hrl⟩
          have hxe : ((y5, i5, l5) : Slp) = (y6, i6, l6) := by
            have h1 : (rs.map Prod.fst)[j]? = some (y5, i5, l5) := by rw [List.getElem?_map, hxa]; rfl
            have h2 : (rt.map Prod.fst)[j]? = some (y6, i6, l6) := by rw [List.getElem?_map, hxb]; rfl
            rw [HOS.out.1, HEQ.out.2.1, ← HOT.out.1, h2] at h1
            exact (Option.some.inj h1).symm
          simp only [Prod.mk.injEq] at hxe
          obtain ⟨rfl, rfl, rfl⟩ := hxe
          have h448 : l5.length ≤ 448 := H448.out (y5, i5, l5) (by rw [← HOS.out.1]; exact List.mem_map.2 ⟨_, List.mem_of_getElem? hxa, rfl⟩)
          have HKX : Hid (∀ W, Below wv.heap.size wv W → (W.cell? ⟨ga, j * 3, none⟩ = some (.int .i64 y5) ∧ W.cell? ⟨ga, j * 3 + 1, none⟩ = some (.int .i64 i5) ∧ W.cell? ⟨ga, j * 3 + 2, none⟩ = some (.slice A5 l5.length c5)) ∧ W.cell? ⟨gb, j * 3, none⟩ = some (.int .i64 y5) ∧ W.cell? ⟨gb, j * 3 + 1, none⟩ = some (.int .i64 i5) ∧ W.cell? ⟨gb, j * 3 + 2, none⟩ = some (.slice A6 l5.length c6)) := Lib.hid (fun W hW => by
            have hbw := bTrans HBV.out hW
            have ra := hrwa.below (bTrans HBU.out hbw) hrwa.lt
            have rb := hrwb.below hbw hrwb.lt
            exact ⟨⟨ra.cell hxa (j := 0) rfl, ra.cell hxa (j := 1) rfl, ra.cell hxa (j := 2) rfl⟩, rb.cell hxb (j := 0) rfl, rb.cell hxb (j := 1) rfl, rb.cell hxb (j := 2) rfl⟩)
          have HSA : Hid (∀ W, Below wv.heap.size wv W → Calls Tryz.prog 14 #[.agg #[.int .i64 y5, .int .i64 i5, .slice A5 l5.length c5], .agg #[.int .i64 y5, .int .i64 i5, .slice A6 l5.length c6]] W fun e w' => e = .returned (.bool true) ∧ Below W.heap.size W w') := Lib.hid (fun W hW => by
            have hbw := bTrans HBV.out hW
            exact la_same y5 i5 l5 A5 A6 c5 c6 W (by omega) (ownSlc encLi_len ((HOS.out.2.below (bTrans HBU.out hbw)).2 _ (List.mem_of_getElem? hxa))) (ownSlc encLi_len ((HOT.out.2.below hbw).2 _ (List.mem_of_getElem? hxb))))
          have HIJ : Hid (j < rs.length ∧ j < rt.length) := Lib.hid ⟨hlt, hrl⟩
          clear hrwa hrwb hxa hxb h448
          go_upto_region 24 with fail
          go_cut [136] from 127 to 135 (fun v wx => v = .bool false ∧ Hid (Below wv.heap.size wv wx))
          case first =>
            refine wp_region_mk (SPS [(8, Sp.val (.slice (some ⟨ga, 0, none⟩) rs.length c3)), (14, Sp.val (.int .i64 j)), (11, Sp.val (.slice (some ⟨gb, 0, none⟩) rt.length c4)), (129, Sp.val (.pointer (some ⟨ga, j * 3, none⟩))), (130, Sp.val (.agg #[.int .i64 y5, .int .i64 i5, .slice A5 l5.length c5])), (133, Sp.val (.pointer (some ⟨gb, j * 3, none⟩))), (134, Sp.val (.agg #[.int .i64 y5, .int .i64 i5, .slice A6 l5.length c6])), (135, Sp.val (.bool true)), (136, Sp.val (.bool false)), (127, Sp.val (.slice (some ⟨ga, 0, none⟩) rs.length c3)), (128, Sp.val (.int .i64 j)), (131, Sp.val (.slice (some ⟨gb, 0, none⟩) rt.length c4)), (132, Sp.val (.int .i64 j))]) [] [127, 128, 129, 130, 131, 132, 133, 134, 135, 136] rfl (by rfl) (by kernel_rfl) (SPS.st _) ?_ ?_ ?_ (by decide) (by rfl) ?_ (opsK_all ?_) ?_
            · exact nil_all
            · exact nil_all
            · exact nil_all
            · exact sps_start (cons_all rfl (cons_all rfl (cons_all rfl (nil_all))))
            · refine opsK_cons (by
               exact kind_n (opOk_move rfl rfl (.inl rfl) (by kernel_rfl) (fun _ _ h => sps rfl (h.get rfl))) (by decide)) ?_
              refine opsK_cons (by
               exact kind_n (opOk_move rfl rfl (.inl rfl) (by kernel_rfl) (fun _ _ h => sps rfl (h.get rfl))) (by decide)) ?_
              refine opsK_cons (by
               exact kind_n (opOk_run rfl (.inl rfl) (fun a W hW hsp => by
                  have e127 : a.eval (.tmp 127) = .slice (some ⟨ga, 0, none⟩) rs.length c3 := (hsp 127 (by kernel_rfl)).get rfl
                  have e128 : a.eval (.tmp 128) = .int .i64 j := (hsp 128 (by kernel_rfl)).get rfl
                  have hb1 := HIJ.out
                  refine ⟨.pointer (some ⟨ga, j * 3, none⟩), ?_, sps rfl rfl⟩
                  unfold execOp
                  simp only [e127, e128]
                  go_simp)) (by decide)) ?_
              refine opsK_cons (by
               exact kind_n (opOk_load (p := ⟨ga, j * 3, none⟩) rfl rfl (.inl rfl) (by kernel_rfl) (fun _ _ h => h.get rfl) (fun W hW => by
                  obtain ⟨⟨q0, q1, q2⟩, _⟩ := HKX.out W hW
                  exact ⟨.agg #[.int .i64 y5, .int .i64 i5, .slice A5 l5.length c5], by go_simp, sps rfl rfl⟩)) (by decide)) ?_
              refine opsK_cons (by
               exact kind_n (opOk_move rfl rfl (.inl rfl) (by kernel_rfl) (fun _ _ h => sps rfl (h.get rfl))) (by decide)) ?_
              refine opsK_cons (by
               exact kind_n (opOk_move rfl rfl (.inl rfl) (by kernel_rfl) (fun _ _ h => sps rfl (h.get rfl))) (by decide)) ?_
              refine opsK_cons (by
               exact kind_n (opOk_run rfl (.inl rfl) (fun a W hW hsp => by
                  have e131 : a.eval (.tmp 131) = .slice (some ⟨gb, 0, none⟩) rt.length c4 := (hsp 131 (by kernel_rfl)).get rfl
                  have e132 : a.eval (.tmp 132) = .int .i64 j := (hsp 132 (by kernel_rfl)).get rfl
                  have hb1 := HIJ.out
                  refine ⟨.pointer (some ⟨gb, j * 3, none⟩), ?_, sps rfl rfl⟩
                  unfold execOp
                  simp only [e131, e132]
                  go_simp)) (by decide)) ?_
              refine opsK_cons (by
               exact kind_n (opOk_load (p := ⟨gb, j * 3, none⟩) rfl rfl (.inl rfl) (by kernel_rfl) (fun _ _ h => h.get rfl) (fun W hW => by
                  obtain ⟨_, q0, q1, q2⟩ := HKX.out W hW
                  exact ⟨.agg #[.int .i64 y5, .int .i64 i5, .slice A6 l5.length c6], by go_simp, sps rfl rfl⟩)) (by decide)) ?_
              refine opsK_cons (by
               exact kind_n (opOk_callg (fun a => #[a.eval (.tmp 130), a.eval (.tmp 134)]) rfl rfl (.inl rfl) (fun a => by simp only [List.map_toArray, List.map_cons, List.map_nil] <;> rfl) (fun args W => by go_simp) (fun a W hW hsp => by
                  have e130 : a.eval (.tmp 130) = .agg #[.int .i64 y5, .int .i64 i5, .slice A5 l5.length c5] := (hsp 130 (by kernel_rfl)).get rfl
                  have e134 : a.eval (.tmp 134) = .agg #[.int .i64 y5, .int .i64 i5, .slice A6 l5.length c6] := (hsp 134 (by kernel_rfl)).get rfl
                  simp only [e130, e134]
                  exact (HSA.out W hW).mono fun e w' ⟨he, hb⟩ => ⟨_, he, hb, sps rfl rfl⟩)) (by decide)) ?_
              refine opsK_cons (by
               exact kind_n (opOk_run rfl (.inl rfl) (fun a W hW hsp => by
                  have e135 : a.eval (.tmp 135) = .bool true := (hsp 135 (by kernel_rfl)).get rfl
                  refine ⟨.bool false, ?_, sps rfl rfl⟩
                  unfold execOp
                  simp only [e135]
                  go_simp)) (by decide)) ?_
              exact opsK_nil
            · intro vs W hb hsp _
              have z136 := (hsp 136).get rfl
              simp only [putAll]
              go_simp
              go_step
              go_meet
              exact ⟨z136, Lib.hid hb⟩
          case rest =>
          obtain ⟨rfl, HBQ⟩ := hcut
          go_wp2
          go_roundg (rs.length - (j + 1))
          case measure => omega
          case rel => exact ⟨j + 1, by omega, by go_num, Lib.hid (bTrans HBV.out HBQ.out)⟩
        · obtain rfl : j = rs.length := by omega
          have HBF : Hid (Below w.heap.size w wv) := Lib.hid (bTrans HB5.out HBV.out)
          go_wp2_with (go_at_call 10; refine (HAW.out _ HBF.out).mono ?_; rintro e w6 ⟨rfl, hb6⟩)
          go_ret
          exact ⟨rfl, bTrans HBF.out hb6⟩
end Go.Proofs.YtgepbkldgnjpfaaGreatDoor
