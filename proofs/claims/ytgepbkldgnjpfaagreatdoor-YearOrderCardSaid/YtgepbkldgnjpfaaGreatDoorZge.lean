/- Out of: Yc4. -/
import Derived.Test.YtgepbkldgnjpfaaGreatDoorZgd
import Derived.Deep.CutRange
import Derived.Deep.RegionHeld3
/- before.Take. -/
namespace Go.Proofs.YtgepbkldgnjpfaaGreatDoor
open Go.RowKit Go.Sort Go.BigFrame Go.Maps

theorem fitB_bd {c : Int} (h : fitB c = true) : -1125899906842624 ≤ c ∧ c ≤ 1125899906842624 := by
  unfold fitB at h
  have := of_decide_eq_true h
  omega
theorem amtB_bd {c : Int} (h : amtB c = true) : 0 ≤ c ∧ c ≤ 1125899906842624 := of_decide_eq_true h
/-- A map's block is no row's. -/
theorem ownNeMap {α : Type} {enc : α → List Value} {k : Nat} {e K : TypeId} {base b n : Nat} {v : Value} {l : List α} {w : World} {D : DataW Value} (h : Own enc k e base v l w) (hm : w.ownsMap Tryz.prog K heldV b n D) : some b ≠ v.ownBlock := by
  obtain ⟨es, ck, hb, _⟩ := hm
  rcases h.2 with ⟨rfl, _⟩ | ⟨g', cap, cur, rfl, _, hh, _⟩
  · simp [Value.ownBlock]
  · intro he
    have : b = g' := by simpa [Value.ownBlock] using he
    subst this
    rw [hb] at hh
    cases hh
/-- What the loop keeps. -/
structure TakW (was : Ass ByteArray Int) (n0 : Nat) (V : Value) (by_ : Ass ByteArray Lim) (vb : Value) (nb yb : Nat) (w : World) (n : Nat) (now year : Ass ByteArray Int) (ov : Value) (out : List It) (wr : World) : Prop where
  be : Below w.heap.size w wr
  lm : MpL by_ 64 vb wr
  vn : vb ≠ .map (some nb) ∧ vb ≠ .map (some yb)
  no : OmC now n nb wr
  ye : OmC year (n0 + n) yb wr
  ow : Own encI 2 65 w.heap.size ov out wr
  fr : w.heap.size ≤ nb ∧ w.heap.size ≤ yb ∧ nb ≠ yb
  on : some nb ≠ ov.ownBlock ∧ some yb ≠ ov.ownBlock
theorem TakW.below {was : Ass ByteArray Int} {n0 : Nat} {V : Value} {by_ : Ass ByteArray Lim} {vb : Value} {nb yb : Nat} {w : World} {n : Nat} {now year : Ass ByteArray Int} {ov : Value} {out : List It} {wr wr' : World} (h : TakW was n0 V by_ vb nb yb w n now year ov out wr) (hb : Below wr.heap.size wr wr') : TakW was n0 V by_ vb nb yb w n now year ov out wr' where
  be := h.be.trans (hb.mono h.be.size)
  lm := h.lm.below hb
  vn := h.vn
  no := hmBel h.no hb
  ye := hmBel h.ye hb
  ow := h.ow.none_ ⟨hb.os, hb.tape, hb.output, hb.size, fun i hi _ => hb.block i hi⟩
  fr := h.fr
  on := h.on
/-- No map that lay there before. -/
def NewM (B : Nat) (v : Value) : Prop := ∀ b, v = .map (some b) → B ≤ b
theorem NewM.nil {B : Nat} : NewM B (.map none) := by intro b h; cases h
set_option maxHeartbeats 4000000 in
set_option maxRecDepth 100000 in
theorem bf_Take (g : Int) (was : Ass ByteArray Int) (n0 : Nat) (V : Value) (wanted : List It) (A : Option Addr) (cap : Nat) (limits : List Lim) (AL : Option Addr) (capL : Nat) (w : World) (hn : wanted.length ≤ 1000000) (hnl : limits.length ≤ 1000000) (hsz : ∀ x ∈ wanted, x.1.size ≤ 9223372036854775807) (hszl : ∀ x ∈ limits, x.1.size ≤ 9223372036854775807) (hT : Tb w) (hm : MpC was n0 V w) (hn0 : n0 ≤ 1000000000) (hs : Sl encI 2 w w.heap.size A wanted) (hsl : Sl encL 3 w w.heap.size AL limits) :
    Calls Tryz.prog 37 #[.int .i64 g, V, .slice A wanted.length cap, .slice AL limits.length capL] w fun e w' => ∃ v1 v2, e = .returned (.tuple #[v1, v2, .int .i64 (takeL g was wanted limits).2.2]) ∧ Own encI 2 65 w.heap.size v1 (takeL g was wanted limits).1 w' ∧ MpC (takeL g was wanted limits).2.1 (n0 + 64) v2 w' ∧ NewM w.heap.size v2 ∧ Below w.heap.size w w' := by
  obtain ⟨R, hR⟩ : ∃ R, takeL g was wanted limits = R := ⟨_, rfl⟩
  rw [hR]
  have HR : Hid (R = if fitB g = false then ([], [], 2) else if (bndL limits).2 ≠ 0 then ([], [], (bndL limits).2) else if 64 < wanted.length then ([], [], 5) else takGo g was (bndL limits).1 (max g 0) [] was [] wanted) := Lib.hid hR.symm
  have HBN := Lib.hid (bf_bounds limits AL capL w hnl hszl hT hsl)
  have HOK := Lib.hid (fun k x => @bndL_ok limits · k x)
  obtain ⟨⟨by_, be⟩, hby⟩ : ∃ q, bndL limits = q := ⟨_, rfl⟩
  rw [hby] at HR HBN HOK
  have HFG : Hid (fitB g = true → -1125899906842624 ≤ g ∧ g ≤ 1125899906842624) := Lib.hid fitB_bd
  obtain ⟨fg, hfg⟩ : ∃ q, fitB g = q := ⟨_, rfl⟩
  rw [hfg] at HR HFG
  have HF : Hid (∀ W, Calls Tryz.prog 22 #[.int .i64 g] W fun e w' => e = .returned (.bool fg) ∧ W = w') := Lib.hid fun W => by rw [← hfg]; exact ce_fit g W
  have HS := Lib.hid hs
  have HT := Lib.hid hT
  have HM := Lib.hid hm
  have HSZ := Lib.hid hsz
  have HN0 := Lib.hid hn0
  have hmm := @run_makeMap Tryz.prog
  clear hR hby hfg hs hT hm hsz hn0 hszl hsl
  go_enter Tryz.func37, Tryz.ntmps37
  go_wp2_with fail
  refine (HF.out _).mono ?_
  rintro e w1 ⟨rfl, rfl⟩
  cases fg with
  | false =>
    have HE : Hid (R = ([], [], 2)) := Lib.hid (by rw [HR.out, if_pos rfl])
    go_wp2
    go_ret3
    rw [HE.out]
    exact ⟨_, _, rfl, Own.nil _, MapV.nil, NewM.nil, Below.refl _ _⟩
  | true =>
  go_wp2_with fail
  refine HBN.out.mono ?_
  rintro e w1 ⟨vb, rfl, hlm, hb1⟩
  have HB1 := Lib.hid hb1
  have HLM := Lib.hid hlm
  clear hb1 hlm
  by_cases hbe : be = 0
  case neg =>
    have n1 : (be != 0) = true := by simpa using hbe
    have HE : Hid (R = ([], [], be)) := Lib.hid (by rw [HR.out, if_neg (by simp), if_pos hbe])
    clear hbe
    go_wp2
    go_ret3
    rw [HE.out]
    exact ⟨_, _, rfl, Own.nil _, MapV.nil, NewM.nil, HB1.out⟩
  subst hbe
  by_cases h64 : 64 < wanted.length
  · have HE : Hid (R = ([], [], 5)) := Lib.hid (by rw [HR.out, if_neg (by simp), if_neg (by simp), if_pos h64])
    go_wp2
    go_ret3
    rw [HE.out]
    exact ⟨_, _, rfl, Own.nil _, MapV.nil, NewM.nil, HB1.out⟩
  have HA0 : Hid (takGo g was by_ (max g 0) [] was [] wanted = R) := Lib.hid (by rw [HR.out, if_neg (by simp), if_neg (by simp), if_neg h64])
  have HL64 : Hid (wanted.length ≤ 64) := Lib.hid (by omega)
  have HGB := Lib.hid (HFG.out trivial)
  go_wp2_with fail
  refine (ce_Greatest _ _ _).mono ?_
  rintro e w2 ⟨rfl, rfl⟩
  obtain ⟨nb, hnb⟩ : ∃ x, w1.heap.size = x := ⟨_, rfl⟩
  obtain ⟨yb, hyb⟩ : ∃ x, nb + 1 = x := ⟨_, rfl⟩
  obtain ⟨w2, hw2⟩ : ∃ x, (w1.alloc (.map #[] 0)).alloc (.map #[] 0) = x := ⟨_, rfl⟩
  have k1 : OmC [] 0 nb w2 := by
    have := World.ownsMap_made (H := Value) w1 Tryz.prog 9 heldV
    rw [hnb] at this
    rw [← hw2]
    exact this.alloc _
  have k2 : OmC [] 0 yb w2 := by
    have := World.ownsMap_made (H := Value) (w1.alloc (.map #[] 0)) Tryz.prog 9 heldV
    have e1 : (w1.alloc (.map #[] 0)).heap.size = yb := by simp; omega
    rw [hw2, e1] at this
    exact this
  have hb2 : Below w1.heap.size w1 w2 := by rw [← hw2]; exact ((Grows.of_alloc _ _).alloc _).below
  have HK1 := Lib.hid k1
  have HK2 := Lib.hid k2
  have HB2 := Lib.hid hb2
  have HNY : Hid (w.heap.size ≤ nb ∧ w.heap.size ≤ yb ∧ nb ≠ yb ∧ vb ≠ .map (some nb) ∧ vb ≠ .map (some yb) ∧ V ≠ .map (some yb)) := Lib.hid (by
    have h1 := HB1.out.size
    refine ⟨by omega, by omega, by omega, fun h => ?_, fun h => ?_, fun h => ?_⟩
    · have := HLM.out.lt h; omega
    · have := HLM.out.lt h; omega
    · have := HM.out.lt h; omega)
  clear k1 k2 hb2
  have hcopy := mp_Copy was n0 yb V w2 (HM.out.below (bTrans HB1.out HB2.out)) HK2.out HNY.out.2.2.2.2.2 (by have := HN0.out; unfold maxLen; omega)
  have HCP := Lib.hid hcopy
  clear hcopy
  go_wp2_with fail
  refine HCP.out.mono ?_
  rintro e w3 ⟨rfl, hy3, hg3⟩
  have HI0 : Hid (TakW was n0 V by_ vb nb yb w 0 [] was (.slice none 0 0) [] w3) := Lib.hid {
    be := (bTrans HB1.out HB2.out).grown hg3 (bTrans HB1.out HB2.out).size (fun j hj => by cases hj; exact HNY.out.2.1)
    lm := (HLM.out.below HB2.out).grown hg3 HNY.out.2.2.2.2.1
    vn := ⟨HNY.out.2.2.2.1, HNY.out.2.2.2.2.1⟩
    no := HK1.out.kept hg3 (by intro h; injection h with h; exact HNY.out.2.2.1 h)
    ye := hy3
    ow := Own.nil _
    fr := ⟨HNY.out.1, HNY.out.2.1, HNY.out.2.2.1⟩
    on := ⟨by simp [Value.ownBlock], by simp [Value.ownBlock]⟩ }
  have HT0 : Hid (TakI g (max g 0) [] was was) := Lib.hid ⟨by omega, fun k => Int.le_refl _, fun k => by show (0 : Int) + _ ≤ _; omega, fun k => Or.inl rfl⟩
  obtain ⟨lf0, hlf0⟩ : ∃ q, max g 0 = q := ⟨_, rfl⟩
  rw [hlf0] at HA0 HT0
  clear hy3 hg3 HK1 HK2 HCP HLM HB1 HB2 hmm hw2 hnb hyb
  go_wp2
  go_loopg [13, 14, 47] wanted.length (fun k ov lv iv wr => ∃ (sv : Value) (n : Nat) (lf : Int) (now year : Ass ByteArray Int) (out : List It), sv = ov ∧ n + k = wanted.length ∧ iv = .int .i64 n ∧ lv = .int .i64 lf ∧ out.length ≤ n ∧ Hid (takGo g was by_ lf now year out (wanted.drop n) = R) ∧ Hid (TakI g lf now year was) ∧ Hid (TakW was n0 V by_ vb nb yb w n now year ov out wr))
  case atStart => exact ⟨_, 0, lf0, [], was, [], rfl, Nat.zero_add _, rfl, rfl, Nat.le_refl _, HA0, HT0, HI0⟩
  case round =>
    obtain ⟨ov, n, lf, now, year, out, rfl, hn1, rfl, rfl, hol, HA, HTI, HW⟩ := hrel
    by_cases hlt : n < wanted.length
    · obtain ⟨b, off, rfl, hB, hc⟩ := HS.out (by intro h; simp [h] at hlt)
      obtain ⟨⟨co, x⟩, hx⟩ : ∃ x, wanted[n]? = some x := ⟨_, List.getElem?_eq_getElem hlt⟩
      have C0 : wr.cell? ⟨b, off + n * 2, none⟩ = some (.string co) := (HW.out.be.cell (p := ⟨b, off + n * 2, none⟩) hB).trans (by simpa using hc n _ hx 0 _ rfl)
      have C1 : wr.cell? ⟨b, off + n * 2 + 1, none⟩ = some (.int .i64 x) := (HW.out.be.cell (p := ⟨b, off + n * 2 + 1, none⟩) hB).trans (hc n _ hx 1 _ rfl)
      have hdrop : wanted.drop n = (co, x) :: wanted.drop (n + 1) := by
        rw [List.drop_eq_getElem_cons hlt]
        congr 1
        have := List.getElem?_eq_getElem hlt
        rw [hx] at this
        exact (Option.some.inj this).symm
      obtain ⟨c, hcc⟩ : ∃ c, limC g by_ now year co (min x lf) = c := ⟨_, rfl⟩
      have HD : Hid (R = if nmB co = false then ([], [], 12)
    else if amtB x = false then ([], [], 2)
    else if amtB (g0 was co) = false then ([], [], 2)
    else if amtB (g0 year co + c) = false then ([], [], 9)
    else takGo g was by_ (lf - c) ((co, g0 now co + c) :: now) ((co, g0 year co + c) :: year) (if 0 < c then out ++ [(co, c)] else out) (wanted.drop (n + 1))) := Lib.hid (by rw [← HA.out, hdrop, ← hcc]; rfl)
      have HCC := Lib.hid hcc
      have hco : co.size ≤ 9223372036854775807 := HSZ.out _ (List.mem_of_getElem? hx)
      have HKY : Hid (keyOf Tryz.prog 9 (.string co) = some (kS co)) := Lib.hid (keyOfS (by unfold maxLen; omega))
      have HCO := Lib.hid hco
      clear hc hx hdrop hco hcc
      go_upto_region 14 with fail
      obtain ⟨fb, hfb⟩ : ∃ y, wr.heap.size = y := ⟨_, rfl⟩
      obtain ⟨wa, hwa⟩ : ∃ y, wr.alloc (.cells #[.string co, .int .i64 x] 65) = y := ⟨_, rfl⟩
      have hb0 : Bk fb 65 #[.string co, .int .i64 x] wa := by rw [← hwa, ← hfb]; exact Bk.new _ _ _
      have HW1 : Hid (TakW was n0 V by_ vb nb yb w n now year ov out wa) := Lib.hid (by rw [← hwa]; exact HW.out.below (bAlloc _ _))
      have D0 : wa.cell? ⟨fb, 0, none⟩ = some (.string co) := hb0.cell 0
      have HNE : Hid (fb ≠ nb ∧ fb ≠ yb ∧ w.heap.size ≤ fb ∧ some fb ≠ ov.ownBlock) := Lib.hid (by
        have h1 := HW.out.no.lt
        have h2 := HW.out.ye.lt
        have h3 := HW.out.be.size
        exact ⟨by omega, by omega, by omega, fun he => by have := (HW.out.ow.lt he.symm).2; omega⟩)
      have HB0 := Lib.hid hb0
      rw [hwa, hfb]
      clear hwa hb0 C0 C1 HW hfb
      go_wp2_with fail
      refine (bf_name _ _ HCO.out (HT.out.below HW1.out.be)).mono ?_
      rintro e w3 ⟨rfl, hb3⟩
      have HW3 := Lib.hid (HW1.out.below hb3)
      have E1 : Bk fb 65 #[.string co, .int .i64 x] w3 := bkBel HB0.out hb3
      have F0 : w3.cell? ⟨fb, 0, none⟩ = some (.string co) := E1.cell 0
      have F1 : w3.cell? ⟨fb, 1, none⟩ = some (.int .i64 x) := E1.cell 1
      have hlt3 := E1.lt
      have HB3 := Lib.hid E1
      clear E1 D0 hb3 HB0 HW1
      obtain ⟨nm, hnm⟩ : ∃ y, nmB co = y := ⟨_, rfl⟩
      rw [hnm] at HD ⊢
      cases nm
      · have HE : Hid (R = ([], [], 12)) := Lib.hid (by rw [HD.out, if_pos rfl])
        go_wp2
        go_ret3
        rw [HE.out]
        exact ⟨_, _, rfl, Own.nil _, MapV.nil, NewM.nil, HW3.out.be⟩
      go_wp2_with fail
      refine (bf_right _ _).mono ?_
      rintro e w4 ⟨rfl, rfl⟩
      obtain ⟨a1, ha1⟩ : ∃ y, amtB x = y := ⟨_, rfl⟩
      have HX1 := Lib.hid ha1
      rw [ha1] at HD ⊢
      clear ha1
      cases a1
      · have HE : Hid (R = ([], [], 2)) := Lib.hid (by rw [HD.out, if_neg (by simp), if_pos rfl])
        go_wp2
        go_ret3
        rw [HE.out]
        exact ⟨_, _, rfl, Own.nil _, MapV.nil, NewM.nil, HW3.out.be⟩
      obtain ⟨gw, hgw⟩ : ∃ y, g0 was co = y := ⟨_, rfl⟩
      have HLK1 : Hid ((Instr.lookup 26 V (.string co) false).run Tryz.prog w3 = .ok (.int .i64 gw) w3) := Lib.hid (by
        have := (HM.out.below HW3.out.be).look keyT kS_W Tryz.underlying26 (zeroCe w3) HKY.out
        rw [lkC, hgw] at this
        exact this)
      rw [hgw] at HD
      have HGW := Lib.hid hgw
      clear hgw
      go_wp2_with (at_lookup; refine wpList_look _ rfl _ _ _ _ rfl _ _ _ rfl rfl HLK1.out ?_)
      go_wp2_with fail
      refine (bf_right _ _).mono ?_
      rintro e w4 ⟨rfl, rfl⟩
      obtain ⟨a2, ha2⟩ : ∃ y, amtB gw = y := ⟨_, rfl⟩
      have HX2 := Lib.hid ha2
      rw [ha2] at HD ⊢
      clear ha2
      cases a2
      · have HE : Hid (R = ([], [], 2)) := Lib.hid (by rw [HD.out, if_neg (by simp), if_neg (by simp), if_pos rfl])
        go_wp2
        go_ret3
        rw [HE.out]
        exact ⟨_, _, rfl, Own.nil _, MapV.nil, NewM.nil, HW3.out.be⟩
      go_wp2_with fail
      refine (ce_Least _ _ _).mono ?_
      rintro e w4 ⟨rfl, rfl⟩
      obtain ⟨c0, hc0⟩ : ∃ y, min x lf = y := ⟨_, rfl⟩
      have HC0 : Hid (0 ≤ c0 ∧ c0 ≤ lf) := Lib.hid (by have h1 := amtB_bd HX1.out; have h2 := HTI.out.l0; omega)
      rw [hc0] at HCC ⊢
      clear hc0
      obtain ⟨x1, x2, x3, hlk⟩ := lkL_agg by_ co
      obtain ⟨ok, hok⟩ : ∃ y, (getA by_ co).isSome = y := ⟨_, rfl⟩
      have HLK2 : Hid ((Instr.lookup 130 vb (.string co) true).run Tryz.prog w3 = .ok (.tuple #[.agg #[.string x1, .int .i64 x2, .int .i64 x3], .bool ok]) w3) := Lib.hid (by
        have := HW3.out.lm.lookOk keyT kS_W Tryz.underlying130 (zeroLim w3) HKY.out
        rw [hlk, hok] at this
        exact this)
      have HLO : Hid (ok = true → ∃ l, getA by_ co = some l ∧ x1 = l.1 ∧ x2 = l.2.1 ∧ x3 = l.2.2) := Lib.hid (fun h => by
        rw [h] at hok
        obtain ⟨l, hl⟩ := Option.isSome_iff_exists.1 hok
        refine ⟨l, hl, ?_⟩
        unfold lkA at hlk
        rw [hl] at hlk
        simp only [aggL, Value.agg.injEq, Array.mk.injEq, List.cons.injEq, Value.string.injEq, Value.int.injEq, true_and, and_true] at hlk
        exact ⟨hlk.1.symm, hlk.2.1.symm, hlk.2.2.symm⟩)
      have HNO : Hid (ok = false → getA by_ co = none) := Lib.hid (fun h => by
        rw [h] at hok
        simpa using hok)
      clear hlk hok
      go_upto_if 78 with (at_lookup; refine wpList_look _ rfl _ _ _ _ rfl _ _ _ rfl rfl HLK2.out ?_)
      obtain ⟨lb, hlb⟩ : ∃ y, w3.heap.size = y := ⟨_, rfl⟩
      obtain ⟨wb, hwb⟩ : ∃ y, w3.alloc (.cells #[.string x1, .int .i64 x2, .int .i64 x3] 136) = y := ⟨_, rfl⟩
      have hl0 : Bk lb 136 #[.string x1, .int .i64 x2, .int .i64 x3] wb := by rw [← hwb, ← hlb]; exact Bk.new _ _ _
      have HWB := Lib.hid (HW3.out.below (by rw [← hwb]; exact bAlloc w3 _ : Below w3.heap.size w3 wb))
      have HBB := Lib.hid (HB3.out.grows (by rw [← hwb]; exact Grows.of_alloc w3 _ : Grows w3 wb))
      have HL0 := Lib.hid hl0
      rw [hwb, hlb]
      clear hwb hlb hl0 HB3 HW3 F0 F1 hlt3 HLK1 HLK2
      go_cut [19, 47] from 47 to 125 (fun cv iv wx => cv = .int .i64 c ∧ iv = .int .i64 n ∧ Hid (TakW was n0 V by_ vb nb yb w n now year ov out wx) ∧ Hid (Bk fb 65 #[.string co, .int .i64 x] wx))
      case first =>
        cases ok with
        | false =>
          have HE : Hid (c0 = c) := Lib.hid (by rw [← HCC.out]; unfold limC; rw [HNO.out rfl])
          go_wp2
          go_meet
          exact ⟨by rw [HE.out], rfl, HWB, HBB⟩
        | true =>
          obtain ⟨l, hl, hx1, hx2, hx3⟩ := HLO.out rfl
          obtain ⟨nw, hnw⟩ : ∃ y, g0 now co = y := ⟨_, rfl⟩
          obtain ⟨gy, hgy⟩ : ∃ y, g0 year co = y := ⟨_, rfl⟩
          obtain ⟨gm, hgm⟩ : ∃ y, max g 0 = y := ⟨_, rfl⟩
          obtain ⟨rm, hrm⟩ : ∃ y, roomX gm x2 x3 nw gy = y := ⟨_, rfl⟩
          have HCM : Hid (min c0 rm = c) := Lib.hid (by
            have := HCC.out
            unfold limC at this
            rw [hl] at this
            simp only at this
            rw [hgm, hnw, hgy, ← hx2, ← hx3, hrm] at this
            exact this)
          have HG : Hid (∀ W, Calls Tryz.prog 71 #[.int .i64 g, .int .i64 0] W fun e w' => e = .returned (.int .i64 gm) ∧ W = w') := Lib.hid fun W => by rw [← hgm]; exact ce_Greatest g 0 W
          have HRM : Hid (∀ W, Calls Tryz.prog 76 #[.int .i64 gm, .agg #[.string x1, .int .i64 x2, .int .i64 x3], .int .i64 nw, .int .i64 gy] W fun e w' => e = .returned (.int .i64 rm) ∧ Below W.heap.size W w') := Lib.hid fun W => by
            have k := HOK.out trivial co l hl
            rw [← hx2, ← hx3] at k
            have hgb := HGB.out
            have n1 := HTI.out.n0 co
            have n2 := HTI.out.nl co
            have n3 := HTI.out.l0
            have n4 := HTI.out.ye co
            have n5 := amtB_bd HX2.out
            rw [hnw] at n1 n2
            rw [hgy, HGW.out] at n4
            have n6 : 0 ≤ gy ∧ gy ≤ 1125899906842624 := by
              rcases n4 with n4 | n4
              · omega
              · exact amtB_bd n4
            have h := bf_room gm x2 x3 nw gy x1 W (by omega) k.1 k.2 (by omega) n6
            rw [hrm] at h
            exact h
          have HLE : Hid (∀ W, Calls Tryz.prog 75 #[.int .i64 c0, .int .i64 rm] W fun e w' => e = .returned (.int .i64 c) ∧ W = w') := Lib.hid fun W => by rw [← HCM.out]; exact ce_Least c0 rm W
          have HKP : Hid (∀ W, Below wb.heap.size wb W → W.cell? ⟨fb, 0, none⟩ = some (.string co) ∧ (W.cell? ⟨lb, 0, none⟩ = some (.string x1) ∧ W.cell? ⟨lb, 1, none⟩ = some (.int .i64 x2) ∧ W.cell? ⟨lb, 2, none⟩ = some (.int .i64 x3)) ∧ (Instr.lookup 26 (.map (some nb)) (.string co) false).run Tryz.prog W = .ok (.int .i64 nw) W ∧ (Instr.lookup 26 (.map (some yb)) (.string co) false).run Tryz.prog W = .ok (.int .i64 gy) W) := Lib.hid fun W hW => by
            have e1 := bkBel HBB.out hW
            have e2 := bkBel HL0.out hW
            have e3 := HWB.out.below hW
            refine ⟨e1.cell 0, ⟨e2.cell 0, e2.cell 1, e2.cell 2⟩, ?_, ?_⟩
            · have := MapV.look (v := .map (some nb)) (Or.inr ⟨nb, rfl, e3.no⟩) keyT kS_W Tryz.underlying26 (zeroCe W) HKY.out
              rw [lkC, hnw] at this
              exact this
            · have := MapV.look (v := .map (some yb)) (Or.inr ⟨yb, rfl, e3.ye⟩) keyT kS_W Tryz.underlying26 (zeroCe W) HKY.out
              rw [lkC, hgy] at this
              exact this
          have HX : Hid (Below wb.heap.size wb wb.drew) := Lib.hid (bDrew wb)
          obtain ⟨E0, ⟨E1, E2, E3⟩, E4, E5⟩ := HKP.out wb (Below.refl _ _)
          have hlb := HL0.out.lt
          clear hl hx1 hx2 hx3 hnw hgy hgm hrm
          go_wp2_with fail
          go_region_held3 (fun W => W.cell? ⟨fb, 0, none⟩ = some (.string co) ∧ (W.cell? ⟨lb, 0, none⟩ = some (.string x1) ∧ W.cell? ⟨lb, 1, none⟩ = some (.int .i64 x2) ∧ W.cell? ⟨lb, 2, none⟩ = some (.int .i64 x3)) ∧ (Instr.lookup 26 (.map (some nb)) (.string co) false).run Tryz.prog W = .ok (.int .i64 nw) W ∧ (Instr.lookup 26 (.map (some yb)) (.string co) false).run Tryz.prog W = .ok (.int .i64 gy) W) (first | exact HKP.out _ HX.out | go_keep) (first | (go_at_call 71; (with_reducible refine (HG.out _).mono ?_); rintro e wn ⟨rfl, rfl⟩) | (go_at_call 76; (with_reducible refine (HRM.out _).mono ?_); rintro e wn ⟨rfl, hbn⟩; replace HX := Lib.hid (bTrans HX.out hbn); clear hbn) | (go_at_call 75; (with_reducible refine (HLE.out _).mono ?_); rintro e wn ⟨rfl, rfl⟩))
          all_goals
            have HWX := Lib.hid (HWB.out.below HX.out)
            have HBX := Lib.hid (bkBel HBB.out HX.out)
            clear E0 E1 E2 E3 E4 E5 HX
            go_wp2
            go_meet
            exact ⟨rfl, rfl, HWX, HBX⟩
      case rest =>
        obtain ⟨rfl, rfl, HWC, HBC⟩ := hcut
        have HCB : Hid (0 ≤ c ∧ c ≤ lf) := Lib.hid (by
          have h1 := HC0.out
          have h2 := limC_bd (g := g) (by_ := by_) (now := now) (year := year) (k := co) h1.1
          rw [HCC.out] at h2
          omega)
        clear HWB HBB HL0 HLO HNO HCC HC0
        obtain ⟨nw, hnw⟩ : ∃ y, g0 now co = y := ⟨_, rfl⟩
        obtain ⟨gy, hgy⟩ : ∃ y, g0 year co = y := ⟨_, rfl⟩
        have hbnd : (0 ≤ gy ∧ gy ≤ 1125899906842624) ∧ 0 ≤ nw ∧ nw + lf ≤ 1125899906842624 ∧ 0 ≤ lf := by
          have hgb := HGB.out
          have n1 := HTI.out.n0 co
          have n2 := HTI.out.nl co
          have n3 := HTI.out.l0
          have n4 := HTI.out.ye co
          have n5 := amtB_bd HX2.out
          rw [hnw] at n1 n2
          rw [hgy, HGW.out] at n4
          refine ⟨?_, by omega, by omega, n3⟩
          rcases n4 with n4 | n4
          · omega
          · exact amtB_bd n4
        have hcb := HCB.out
        have e1 : IntKind.i64.wrap (gy + c) = gy + c := IntWalk.i64_in _ (by omega)
        have e2 : IntKind.i64.wrap (nw + c) = nw + c := IntWalk.i64_in _ (by omega)
        have e3 : IntKind.i64.wrap (lf - c) = lf - c := IntWalk.i64_in _ (by omega)
        obtain ⟨sm, hsm⟩ : ∃ y, gy + c = y := ⟨_, rfl⟩
        obtain ⟨nm2, hnm2⟩ : ∃ y, nw + c = y := ⟨_, rfl⟩
        obtain ⟨l2, hl2⟩ : ∃ y, lf - c = y := ⟨_, rfl⟩
        have v1 : IntKind.i64.wrap (gy + c) = sm := by rw [e1, hsm]
        have v2 : IntKind.i64.wrap (nw + c) = nm2 := by rw [e2, hnm2]
        have v3 : IntKind.i64.wrap (lf - c) = l2 := by rw [e3, hl2]
        have HLK3 : Hid ((Instr.lookup 26 (.map (some yb)) (.string co) false).run Tryz.prog wc = .ok (.int .i64 gy) wc) := Lib.hid (by
          have := MapV.look (v := .map (some yb)) (Or.inr ⟨yb, rfl, HWC.out.ye⟩) keyT kS_W Tryz.underlying26 (zeroCe wc) HKY.out
          rw [lkC, hgy] at this
          exact this)
        have HLK4 : Hid ((Instr.lookup 26 (.map (some nb)) (.string co) false).run Tryz.prog wc = .ok (.int .i64 nw) wc) := Lib.hid (by
          have := MapV.look (v := .map (some nb)) (Or.inr ⟨nb, rfl, HWC.out.no⟩) keyT kS_W Tryz.underlying26 (zeroCe wc) HKY.out
          rw [lkC, hnw] at this
          exact this)
        have HD2 : Hid (R = if amtB sm = false then ([], [], 9) else takGo g was by_ l2 ((co, nm2) :: now) ((co, sm) :: year) (if 0 < c then out ++ [(co, c)] else out) (wanted.drop (n + 1))) := Lib.hid (by
          rw [HD.out]; simp only [Bool.true_eq_false, ↓reduceIte, hgy, hnw, hsm, hnm2, hl2])
        have HTN : Hid (amtB sm = true → TakI g l2 ((co, nm2) :: now) ((co, sm) :: year) was) := Lib.hid (fun h => by
          have := HTI.out.next co hcb.1 hcb.2 (by rw [hgy, hsm]; exact h)
          rw [hgy, hnw, hsm, hnm2, hl2] at this
          exact this)
        have F0 : wc.cell? ⟨fb, 0, none⟩ = some (.string co) := HBC.out.cell 0
        have HGY := Lib.hid hgy
        clear e1 e2 e3 hsm hnm2 hl2 hgy hnw hbnd hcb HD
        go_wp2_with (at_lookup; refine wpList_look _ rfl _ _ _ _ rfl _ _ _ rfl rfl HLK3.out ?_)
        refine (bf_right _ _).mono ?_
        rintro e w4 ⟨rfl, rfl⟩
        obtain ⟨a3, ha3⟩ : ∃ y, amtB sm = y := ⟨_, rfl⟩
        have HX3 := Lib.hid ha3
        rw [ha3] at HD2 ⊢
        clear ha3
        cases a3
        · have HE : Hid (R = ([], [], 9)) := Lib.hid (by rw [HD2.out, if_pos rfl])
          go_wp2
          go_ret3
          rw [HE.out]
          exact ⟨_, _, rfl, Own.nil _, MapV.nil, NewM.nil, HWC.out.be⟩
        have HD3 : Hid (takGo g was by_ l2 ((co, nm2) :: now) ((co, sm) :: year) (if 0 < c then out ++ [(co, c)] else out) (wanted.drop (n + 1)) = R) := Lib.hid (by rw [HD2.out]; simp only [Bool.true_eq_false, ↓reduceIte])
        have HTN2 := Lib.hid (HTN.out HX3.out)
        clear HD2 HTN
        have HND : Hid (n < maxLen ∧ n0 + n < maxLen) := Lib.hid (by have := HL64.out; have := HN0.out; unfold maxLen; omega)
        go_wp2_with (first
          | (at_lookup; refine wpList_look _ rfl _ _ _ _ rfl _ _ _ rfl rfl HLK4.out ?_)
          | (at_mapUpdate; refine wpList_mapUpdate_own _ rfl _ _ _ 26 rfl 9 28 keyT Tryz.underlying26 heldV nb n _ rfl HWC.out.no HND.out.1 _ _ _ rfl rfl HKY.out _ [] rfl ?_))
        intro w5 hm5 hg5
        have hye5 : OmC year (n0 + n) yb w5 := HWC.out.ye.kept hg5 (by intro h; injection h with h; exact HWC.out.fr.2.2 h.symm)
        have HLK5 : Hid ((Instr.lookup 26 (.map (some yb)) (.string co) false).run Tryz.prog w5 = .ok (.int .i64 gy) w5) := Lib.hid (by
          have := MapV.look (v := .map (some yb)) (Or.inr ⟨yb, rfl, hye5⟩) keyT kS_W Tryz.underlying26 (zeroCe w5) HKY.out
          rw [lkC, HGY.out] at this
          exact this)
        have hbc5 := HBC.out.grownBy hg5 (by intro h; injection h with h; exact HNE.out.1 h)
        have F5 : w5.cell? ⟨fb, 0, none⟩ = some (.string co) := hbc5.cell 0
        have HM5 : Hid (OmC ((co, nm2) :: now) (n + 1) nb w5) := Lib.hid hm5
        have HG5 := Lib.hid hg5
        have HY5 := Lib.hid hye5
        have HBC5 := Lib.hid hbc5
        clear hm5 hg5 hye5 hbc5 F0
        go_wp2_with (first
          | (at_lookup; refine wpList_look _ rfl _ _ _ _ rfl _ _ _ rfl rfl HLK5.out ?_)
          | (at_mapUpdate; refine wpList_mapUpdate_own _ rfl _ _ _ 26 rfl 9 28 keyT Tryz.underlying26 heldV yb (n0 + n) _ rfl HY5.out HND.out.2 _ _ _ rfl rfl HKY.out _ [] rfl ?_))
        intro w6 hm6 hg6
        have hbc6 := HBC5.out.grownBy hg6 (by intro h; injection h with h; exact HNE.out.2.1 h)
        have hw6 : TakW was n0 V by_ vb nb yb w (n + 1) ((co, nm2) :: now) ((co, sm) :: year) ov out w6 := {
          be := (HWC.out.be.grown HG5.out HWC.out.be.size (fun j hj => by cases hj; exact HWC.out.fr.1)).grown hg6 (Nat.le_trans HWC.out.be.size HG5.out.size) (fun j hj => by cases hj; exact HWC.out.fr.2.1)
          lm := (HWC.out.lm.grown HG5.out HWC.out.vn.1).grown hg6 HWC.out.vn.2
          vn := HWC.out.vn
          no := HM5.out.kept hg6 (by intro h; injection h with h; exact HWC.out.fr.2.2 h)
          ye := hm6
          ow := (HWC.out.ow.kept HG5.out (Or.inr fun h => HWC.out.on.1 h.symm)).kept hg6 (Or.inr fun h => HWC.out.on.2 h.symm)
          fr := HWC.out.fr
          on := HWC.out.on }
        have F6 : w6.cell? ⟨fb, 0, none⟩ = some (.string co) := hbc6.cell 0
        have HW6 := Lib.hid hw6
        clear hm6 hg6 hbc6 hw6 F5 HLK3 HLK4 HLK5 HM5 HG5 HY5 HWC HBC HBC5
        by_cases hp : 0 < c
        · have d1 : decide ((0 : Int) < c) = true := decide_eq_true hp
          have HD4 : Hid (takGo g was by_ l2 ((co, nm2) :: now) ((co, sm) :: year) (out ++ [(co, c)]) (wanted.drop (n + 1)) = R) := Lib.hid (by have := HD3.out; rw [if_pos hp] at this; exact this)
          have HLE : out.length + 1 ≤ 1000000000 := by omega
          have hlt6 : fb < w6.heap.size := World.block_lt_of_cell? w6 ⟨fb, 0, none⟩ F6
          have GA : Hid (∀ o, (w6.alloc o).cell? ⟨fb, 0, none⟩ = some (.string co)) := Lib.hid fun o => (World.cell?_alloc_lt _ _ _ hlt6).trans F6
          clear hp HD3
          go_upto_region 29 with fail
          go_wp2_with ((at_builtin; refine wpList_append_row encI_len encI_one rfl _ _ 46 rfl w.heap.size 65 _ 24 Tryz.underlying46 itemInfo rfl (by decide) _ out (co, c) rfl (HW6.out.ow.alloc _) w6.heap.size 1 rfl (newsI (co, c) w6) HLE (by decide) (Nat.le_trans HW6.out.be.size (Grows.of_alloc w6 _).size) ?_))
          intro v9 w9 hown9 hgr9
          have hnb9 : OmC ((co, nm2) :: now) (n + 1) nb w9 := (HW6.out.no.alloc _).kept hgr9 HW6.out.on.1
          have hyb9 : OmC ((co, sm) :: year) (n0 + (n + 1)) yb w9 := (HW6.out.ye.alloc _).kept hgr9 HW6.out.on.2
          have hw9 : TakW was n0 V by_ vb nb yb w (n + 1) ((co, nm2) :: now) ((co, sm) :: year) v9 (out ++ [(co, c)]) w9 := {
            be := HW6.out.be.trans (((bAlloc w6 _).mono HW6.out.be.size).trans (grownBelowI hgr9 (fun k hk => (HW6.out.ow.lt hk).1) (Nat.le_trans HW6.out.be.size (Grows.of_alloc w6 _).size)))
            lm := by
              rcases HW6.out.lm with h | ⟨b9, hv, h⟩
              · exact Or.inl h
              · exact Or.inr ⟨b9, hv, (h.alloc _).kept hgr9 (ownNeMap HW6.out.ow h)⟩
            vn := HW6.out.vn
            no := hnb9
            ye := hyb9
            ow := hown9
            fr := HW6.out.fr
            on := ⟨ownNeMap hown9 hnb9, ownNeMap hown9 hyb9⟩ }
          have HW9 := Lib.hid hw9
          clear hown9 hgr9 hnb9 hyb9 hw9
          go_wp2
          go_roundg (wanted.length - (n + 1))
          case measure => omega
          case rel => exact ⟨_, n + 1, l2, _, _, _, rfl, by omega, by go_num, rfl, by simp; omega, HD4, HTN2, HW9⟩
        · have d1 : decide ((0 : Int) < c) = false := decide_eq_false hp
          have HD4 : Hid (takGo g was by_ l2 ((co, nm2) :: now) ((co, sm) :: year) out (wanted.drop (n + 1)) = R) := Lib.hid (by have := HD3.out; rw [if_neg hp] at this; exact this)
          clear hp HD3
          go_wp2
          go_roundg (wanted.length - (n + 1))
          case measure => omega
          case rel => exact ⟨_, n + 1, l2, _, _, out, rfl, by omega, by go_num, rfl, by omega, HD4, HTN2, HW6⟩
    · obtain rfl : n = wanted.length := by omega
      go_wp2
      go_ret3
      have h := HA.out
      rw [List.drop_length] at h
      have hi := HW.out
      refine ⟨_, _, by rw [← h]; rfl, by rw [← h]; exact hi.ow, by rw [← h]; exact Or.inr ⟨yb, rfl, hi.ye.mono (by have := HL64.out; omega)⟩, (by intro b e; cases e; exact hi.fr.2.1), hi.be⟩
end Go.Proofs.YtgepbkldgnjpfaaGreatDoor
