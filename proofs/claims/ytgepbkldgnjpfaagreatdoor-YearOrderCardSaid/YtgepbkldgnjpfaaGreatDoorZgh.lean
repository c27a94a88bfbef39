/- Out of: Yd4 Ye0 Ye1. -/
import Derived.Test.YtgepbkldgnjpfaaGreatDoorZgg
/- social.All: the walk. -/
namespace Go.Proofs.YtgepbkldgnjpfaaGreatDoor
open Go.RowKit Go.Sort Go.BigFrame Go.Maps

theorem results4 {fn : Func} {t u v x : Tmp} (h : fn.results = #[.tmp t, .tmp u, .tmp v, .tmp x]) (tmps : Array Value) (P : Program) (w : World) :
    (results fn tmps).run P w = .ok (.tuple #[tmps.getD t undef, tmps.getD u undef, tmps.getD v undef, tmps.getD x undef]) w := by simp [results, h]
/-- Two rows of one's own lie apart. -/
def ApartV (a b : Value) : Prop := ∀ g, a.ownBlock = some g → b.ownBlock ≠ some g
theorem ApartV.kept {a b : Value} (h : ApartV a b) : b.ownBlock = none ∨ b.ownBlock ≠ a.ownBlock := by
  cases hb : b.ownBlock with
  | none => exact Or.inl rfl
  | some g => exact Or.inr fun e => h g e.symm hb
theorem ApartV.symm {a b : Value} (h : ApartV a b) : ApartV b a := fun g hb ha => h g ha hb
structure AllW (ob mb : Nat) (w : World) (n m : Nat) (out : Ass ByteArray S4) (met : Ass ByteArray Unit) (wv fv : Value) (wk fi : List It) (wr : World) : Prop where
  be : Below w.heap.size w wr
  oo : OmS out n ob wr
  oe : OmU met m mb wr
  wk : Own encI 2 65 w.heap.size wv wk wr
  fi : Own encI 2 65 w.heap.size fv fi wr
  ap : ApartV wv fv
  fr : w.heap.size ≤ ob ∧ w.heap.size ≤ mb ∧ ob ≠ mb
theorem AllW.below {ob mb n m : Nat} {w wr wr' : World} {out : Ass ByteArray S4} {met : Ass ByteArray Unit} {wv fv : Value} {wk fi : List It} (h : AllW ob mb w n m out met wv fv wk fi wr) (hb : Below wr.heap.size wr wr') : AllW ob mb w n m out met wv fv wk fi wr' where
  be := h.be.trans (hb.mono h.be.size)
  oo := hmBel h.oo hb
  oe := hmBel h.oe hb
  wk := h.wk.none_ ⟨hb.os, hb.tape, hb.output, hb.size, fun i hi _ => hb.block i hi⟩
  fi := h.fi.none_ ⟨hb.os, hb.tape, hb.output, hb.size, fun i hi _ => hb.block i hi⟩
  ap := h.ap
  fr := h.fr
theorem AllW.putO {ob mb n m : Nat} {w wr wr' : World} {out out' : Ass ByteArray S4} {met : Ass ByteArray Unit} {wv fv : Value} {wk fi : List It} (h : AllW ob mb w n m out met wv fv wk fi wr) (hg : wr.grownBy wr' (some ob)) (ho : OmS out' (n + 1) ob wr') : AllW ob mb w (n + 1) m out' met wv fv wk fi wr' where
  be := h.be.grown hg h.be.size (fun j hj => by cases hj; exact h.fr.1)
  oo := ho
  oe := h.oe.kept hg (by intro e; injection e with e; exact h.fr.2.2 e.symm)
  wk := h.wk.kept hg (Or.inr fun e => ownNeMap h.wk h.oo e.symm)
  fi := h.fi.kept hg (Or.inr fun e => ownNeMap h.fi h.oo e.symm)
  ap := h.ap
  fr := h.fr
theorem AllW.putM {ob mb n m : Nat} {w wr wr' : World} {out : Ass ByteArray S4} {met met' : Ass ByteArray Unit} {wv fv : Value} {wk fi : List It} (h : AllW ob mb w n m out met wv fv wk fi wr) (hg : wr.grownBy wr' (some mb)) (ho : OmU met' (m + 1) mb wr') : AllW ob mb w n (m + 1) out met' wv fv wk fi wr' where
  be := h.be.grown hg h.be.size (fun j hj => by cases hj; exact h.fr.2.1)
  oo := h.oo.kept hg (by intro e; injection e with e; exact h.fr.2.2 e)
  oe := ho
  wk := h.wk.kept hg (Or.inr fun e => ownNeMap h.wk h.oe e.symm)
  fi := h.fi.kept hg (Or.inr fun e => ownNeMap h.fi h.oe e.symm)
  ap := h.ap
  fr := h.fr
theorem AllW.putW {ob mb n m : Nat} {w wr wr' : World} {out : Ass ByteArray S4} {met : Ass ByteArray Unit} {wv fv v' : Value} {wk fi wk' : List It} (h : AllW ob mb w n m out met wv fv wk fi wr) (hg : wr.grownBy wr' wv.ownBlock) (ho : Own encI 2 65 w.heap.size v' wk' wr') (hl : v'.ownBlock = wv.ownBlock ∨ ∃ g, v'.ownBlock = some g ∧ wr.heap.size ≤ g) : AllW ob mb w n m out met v' fv wk' fi wr' where
  be := h.be.trans (grownBelowI hg (fun k hk => (h.wk.lt hk).1) h.be.size)
  oo := h.oo.kept hg (ownNeMap h.wk h.oo)
  oe := h.oe.kept hg (ownNeMap h.wk h.oe)
  wk := ho
  fi := h.fi.kept hg h.ap.kept
  ap g hv hf := by
    rcases hl with hl | ⟨g', hl, hge⟩
    · exact h.ap g (hl ▸ hv) hf
    · rw [hl] at hv
      cases hv
      have := (h.fi.lt hf).2
      omega
  fr := h.fr
theorem AllW.putF {ob mb n m : Nat} {w wr wr' : World} {out : Ass ByteArray S4} {met : Ass ByteArray Unit} {wv fv v' : Value} {wk fi fi' : List It} (h : AllW ob mb w n m out met wv fv wk fi wr) (hg : wr.grownBy wr' fv.ownBlock) (ho : Own encI 2 65 w.heap.size v' fi' wr') (hl : v'.ownBlock = fv.ownBlock ∨ ∃ g, v'.ownBlock = some g ∧ wr.heap.size ≤ g) : AllW ob mb w n m out met wv v' wk fi' wr' where
  be := h.be.trans (grownBelowI hg (fun k hk => (h.fi.lt hk).1) h.be.size)
  oo := h.oo.kept hg (ownNeMap h.fi h.oo)
  oe := h.oe.kept hg (ownNeMap h.fi h.oe)
  wk := h.wk.kept hg h.ap.symm.kept
  fi := ho
  ap g hv hf := by
    rcases hl with hl | ⟨g', hl, hge⟩
    · exact h.ap g hv (hl ▸ hf)
    · rw [hl] at hf
      cases hf
      have := (h.wk.lt hv).2
      omega
  fr := h.fr
theorem allGo_cons (was : Ass ByteArray S4) (base : Int) (met : Ass ByteArray Unit) (out : Ass ByteArray S4) (wk fi : List It) (x : Sch) (r : List Sch) : allGo was base met out wk fi (x :: r) = if (getA met x.1).isSome = true then ([], [], [], 7)
    else if (stpS (g4 was x.1) x base).2 ≠ 0 then ([], [], [], (stpS (g4 was x.1) x base).2)
    else allGo was base ((x.1, ()) :: met) ((x.1, (stpS (g4 was x.1) x base).1) :: out) (putI wk x.1 ((stpS (g4 was x.1) x base).1.2.2.1 - (g4 was x.1).2.2.1)) (putI fi x.1 ((stpS (g4 was x.1) x base).1.2.2.2 - (g4 was x.1).2.2.2)) r := rfl
set_option maxHeartbeats 4000000 in
set_option maxRecDepth 100000 in
theorem so_All (was : Ass ByteArray S4) (n0 : Nat) (V : Value) (base : Int) (l : List Sch) (A : Option Addr) (cap : Nat) (w : World) (hn : l.length ≤ 1000000) (hsz : ∀ x ∈ l, x.1.size ≤ 9223372036854775807) (hm : MpS was n0 V w) (hn0 : n0 ≤ 1000000000) (hs : Sl encH 4 w w.heap.size A l) :
    Calls Tryz.prog 38 #[V, .int .i64 base, .slice A l.length cap] w fun e w' => ∃ v1 v2 v3, e = .returned (.tuple #[v1, v2, v3, .int .i64 (socL was base l).2.2.2]) ∧ MpS (socL was base l).1 (n0 + 64) v1 w' ∧ NewM w.heap.size v1 ∧ Own encI 2 65 w.heap.size v2 (socL was base l).2.1 w' ∧ Own encI 2 65 w.heap.size v3 (socL was base l).2.2.1 w' ∧ Below w.heap.size w w' := by
  obtain ⟨R, hR⟩ : ∃ R, socL was base l = R := ⟨_, rfl⟩
  rw [hR]
  by_cases h64 : 64 < l.length
  · have HE : Hid (R = ([], [], [], 5)) := Lib.hid (by rw [← hR]; exact if_pos h64)
    go_enter Tryz.func38, Tryz.ntmps38
    go_wp2
    refine bodyPost_ret (results4 rfl _ _ _) rfl ?_
    rw [HE.out]
    exact ⟨_, _, _, rfl, MapV.nil, NewM.nil, Own.nil _, Own.nil _, Below.refl _ _⟩
  have HR : Hid (allGo was base [] was [] [] l = R) := Lib.hid (by rw [← hR]; exact (if_neg h64).symm)
  obtain ⟨ob, hob⟩ : ∃ x, w.heap.size = x := ⟨_, rfl⟩
  obtain ⟨mb, hmb⟩ : ∃ x, ob + 1 = x := ⟨_, rfl⟩
  obtain ⟨rb, hrb⟩ : ∃ x, mb + 1 = x := ⟨_, rfl⟩
  obtain ⟨w2, hw2⟩ : ∃ x, (w.alloc (.map #[] 0)).alloc (.map #[] 0) = x := ⟨_, rfl⟩
  have k1 : OmS [] 0 ob w2 := by
    have := World.ownsMap_made (H := Value) w Tryz.prog 9 heldV
    rw [hob] at this
    rw [← hw2]
    exact this.alloc _
  have k2 : OmU [] 0 mb w2 := by
    have := World.ownsMap_made (H := Value) (w.alloc (.map #[] 0)) Tryz.prog 9 heldV
    rw [hw2, show (w.alloc (.map #[] 0)).heap.size = mb by simp; omega] at this
    exact this
  have hb2 : Below w.heap.size w w2 := by rw [← hw2]; exact ((Grows.of_alloc _ _).alloc _).below
  have hsz2 : w2.heap.size = rb := by rw [← hw2]; simp; omega
  have HK := Lib.hid (And.intro k1 (And.intro k2 hb2))
  have HFR : Hid (w.heap.size ≤ ob ∧ w.heap.size ≤ mb ∧ ob ≠ mb ∧ ob ≠ rb ∧ mb ≠ rb ∧ w.heap.size ≤ rb ∧ V ≠ .map (some ob) ∧ V ≠ .map (some mb)) := Lib.hid (by
    refine ⟨by omega, by omega, by omega, by omega, by omega, by omega, fun h => ?_, fun h => ?_⟩
    · have := hm.lt h; omega
    · have := hm.lt h; omega)
  have HM2 : Hid (MpS was n0 V w2) := Lib.hid (hm.below hb2)
  have HM := Lib.hid hm
  have HS := Lib.hid hs
  have HSZ := Lib.hid hsz
  have HN0 := Lib.hid hn0
  have HL64 : Hid (l.length ≤ 64) := Lib.hid (by omega)
  have hmm := @run_makeMap Tryz.prog
  clear k1 k2 hb2 hR hm hs hsz hn0
  go_enter Tryz.func38, Tryz.ntmps38
  go_wp2_with (at_range; refine wpList_rangeV _ rfl _ 27 rfl 9 89 keyT Tryz.underlying27 V n0 rfl HM2.out ?_)
  intro w3 c0 hrg hc0 hg0
  have HC0 : Hid (AllW ob mb w 0 0 [] [] (.slice none 0 0) (.slice none 0 0) [] [] w3) := Lib.hid {
    be := HK.out.2.2.grown hg0 HK.out.2.2.size (fun j hj => by cases hj)
    oo := HK.out.1.kept hg0 (by simp)
    oe := HK.out.2.1.kept hg0 (by simp)
    wk := Own.nil _
    fi := Own.nil _
    ap := fun g h => by simp [Value.ownBlock] at h
    fr := ⟨HFR.out.1, HFR.out.2.1, HFR.out.2.2.1⟩ }
  have HRG := Lib.hid hrg
  have HCN := Lib.hid hc0
  clear hrg hc0 hg0 hmm hob hmb hrb hw2
  go_wp2
  go_loopg [29] c0 (fun k _ wr => ∃ (c : Nat) (left : Lit → Bool) (Dout : DataW Value), c = k ∧ c ≤ n0 ∧ Hid (RgV 9 V rb n0 (dA kS aggS was) left c wr) ∧ Hid (Agree Dout (dA kS aggS was) left) ∧ Hid (wr.ownsMap Tryz.prog 9 heldV ob (n0 - c) Dout) ∧ Hid (OmU [] 0 mb wr) ∧ Hid (Below w.heap.size w wr))
  case atStart => exact ⟨c0, _, .map [], rfl, HCN.out, HRG, Lib.hid (agree_start _), Lib.hid (HC0.out.oo.mono (Nat.zero_le _)), Lib.hid HC0.out.oe, Lib.hid HC0.out.be⟩
  case round =>
    obtain ⟨c, left, Dout, hck, hk, HRG, HAG, HOO, HOE, HBE⟩ := hrel
    go_wp2_with (first
      | (at_next; refine wpList_nextV _ rfl _ rfl 9 keyT kS_W Value.string keyInvS V rb n0 _ _ rfl HRG.out ?_ ?_)
      | go_in)
    · intro hl0 hc0
      have hD := agree_end HAG.out hl0 (HOO.out.canon keyT) (HRG.out.canon keyT)
      have HI0 : Hid (AllW ob mb w n0 0 was [] (.slice none 0 0) (.slice none 0 0) [] [] wr) := Lib.hid {
        be := HBE.out
        oo := by have := HOO.out; rw [hD] at this; exact this.mono (by omega)
        oe := HOE.out
        wk := Own.nil _
        fi := Own.nil _
        ap := fun g h => by simp [Value.ownBlock] at h
        fr := ⟨HFR.out.1, HFR.out.2.1, HFR.out.2.2.1⟩ }
      clear hD hl0 hc0 HAG HOO HOE HBE HRG HC0 HK HM2 HCN
      go_wp2
      go_loopg [14, 15, 39] l.length (fun k wv fv iv wr => ∃ (sv1 sv2 : Value) (n : Nat) (met : Ass ByteArray Unit) (out : Ass ByteArray S4) (wk fi : List It), sv1 = wv ∧ sv2 = fv ∧ n + k = l.length ∧ iv = .int .i64 n ∧ wk.length ≤ n ∧ fi.length ≤ n ∧ Hid (allGo was base met out wk fi (l.drop n) = R) ∧ Hid (AllW ob mb w (n0 + n) n out met wv fv wk fi wr))
      case atStart => exact ⟨_, _, 0, [], was, [], [], rfl, rfl, Nat.zero_add _, rfl, Nat.le_refl _, Nat.le_refl _, HR, HI0⟩
      case round =>
        obtain ⟨wv, fv, n, met, out, wk, fi, rfl, rfl, hn1, rfl, hwl, hfl, HA, HW⟩ := hrel
        by_cases hlt : n < l.length
        · obtain ⟨b, off, rfl, hB, hc⟩ := HS.out (by intro h; simp [h] at hlt)
          obtain ⟨⟨co, wo, fr, ce⟩, hx⟩ : ∃ x, l[n]? = some x := ⟨_, List.getElem?_eq_getElem hlt⟩
          have C0 : wr.cell? ⟨b, off + n * 4, none⟩ = some (.string co) := (HW.out.be.cell (p := ⟨b, off + n * 4, none⟩) hB).trans (by simpa using hc n _ hx 0 _ rfl)
          have C1 : wr.cell? ⟨b, off + n * 4 + 1, none⟩ = some (.int .i64 wo) := (HW.out.be.cell (p := ⟨b, off + n * 4 + 1, none⟩) hB).trans (hc n _ hx 1 _ rfl)
          have C2 : wr.cell? ⟨b, off + n * 4 + 2, none⟩ = some (.int .i64 fr) := (HW.out.be.cell (p := ⟨b, off + n * 4 + 2, none⟩) hB).trans (hc n _ hx 2 _ rfl)
          have C3 : wr.cell? ⟨b, off + n * 4 + 3, none⟩ = some (.int .i64 ce) := (HW.out.be.cell (p := ⟨b, off + n * 4 + 3, none⟩) hB).trans (hc n _ hx 3 _ rfl)
          have hdrop : l.drop n = (co, wo, fr, ce) :: l.drop (n + 1) := by
            rw [List.drop_eq_getElem_cons hlt]
            congr 1
            have := List.getElem?_eq_getElem hlt
            rw [hx] at this
            exact (Option.some.inj this).symm
          obtain ⟨⟨b1, b2, b3, b4⟩, hbf⟩ : ∃ y, g4 was co = y := ⟨_, rfl⟩
          obtain ⟨⟨⟨n1, n2, n3, n4⟩, se⟩, hst⟩ : ∃ y, stpS (b1, b2, b3, b4) (co, wo, fr, ce) base = y := ⟨_, rfl⟩
          obtain ⟨tw, htw⟩ : ∃ y, (getA met co).isSome = y := ⟨_, rfl⟩
          have HD : Hid (R = if tw = true then ([], [], [], 7) else if se ≠ 0 then ([], [], [], se) else allGo was base ((co, ()) :: met) ((co, (n1, n2, n3, n4)) :: out) (putI wk co (n3 - b3)) (putI fi co (n4 - b4)) (l.drop (n + 1))) := Lib.hid (by
            rw [← HA.out, hdrop]
            rw [allGo_cons]
            dsimp only
            rw [htw, hbf, hst])
          have HBD : Hid (se = 0 → (0 ≤ b3 ∧ b3 ≤ 1125899906842624) ∧ (0 ≤ b4 ∧ b4 ≤ 1125899906842624) ∧ (0 ≤ n3 ∧ n3 ≤ 1125899906842624) ∧ (0 ≤ n4 ∧ n4 ≤ 1125899906842624)) := Lib.hid (fun h => by
            have h2 := stpS_ok (was := (b1, b2, b3, b4)) (x := (co, wo, fr, ce)) (base := base) (by rw [hst]; exact h)
            rw [hst] at h2
            have h3 := sumB_bd h2.1
            have h4 := sumB_bd h2.2
            exact ⟨h3.2.2.1, h3.2.2.2, h4.2.2.1, h4.2.2.2⟩)
          have hco : co.size ≤ 9223372036854775807 := HSZ.out _ (List.mem_of_getElem? hx)
          have HST : Hid (∀ W, Calls Tryz.prog 78 #[.agg #[.int .i64 b1, .int .i64 b2, .int .i64 b3, .int .i64 b4], .agg #[.string co, .int .i64 wo, .int .i64 fr, .int .i64 ce], .int .i64 base] W fun e w' => e = .returned (.tuple #[.agg #[.int .i64 n1, .int .i64 n2, .int .i64 n3, .int .i64 n4], .int .i64 se]) ∧ Below W.heap.size W w') := Lib.hid fun W => by
            have h := so_Step b1 b2 b3 b4 co wo fr ce base W hco
            rw [hst] at h
            exact h
          have HKY : Hid (keyOf Tryz.prog 9 (.string co) = some (kS co)) := Lib.hid (keyOfS (by unfold maxLen; omega))
          have HBF := Lib.hid hbf
          have HTW := Lib.hid htw
          clear hc hx hdrop hco hbf hst htw
          obtain ⟨fb, hfb⟩ : ∃ y, wr.heap.size = y := ⟨_, rfl⟩
          obtain ⟨wa, hwa⟩ : ∃ y, wr.alloc (.cells #[.string co, .int .i64 wo, .int .i64 fr, .int .i64 ce] 57) = y := ⟨_, rfl⟩
          have HB0 : Hid (Bk fb 57 #[.string co, .int .i64 wo, .int .i64 fr, .int .i64 ce] wa) := Lib.hid (by rw [← hwa, ← hfb]; exact Bk.new _ _ _)
          have HW1 : Hid (AllW ob mb w (n0 + n) n out met wv fv wk fi wa) := Lib.hid (by rw [← hwa]; exact HW.out.below (bAlloc _ _))
          have HNE : Hid (fb ≠ ob ∧ fb ≠ mb) := Lib.hid (by
            have h1 := HW.out.oo.lt
            have h2 := HW.out.oe.lt
            omega)
          have HLK1 : Hid ((Instr.lookup 139 (.map (some mb)) (.string co) false).run Tryz.prog wa = .ok (.bool tw) wa) := Lib.hid (by
            have := MapV.look (v := .map (some mb)) (Or.inr ⟨mb, rfl, HW1.out.oe⟩) keyT kS_W Tryz.underlying139 (zeroBo wa) HKY.out
            rw [lkU, HTW.out] at this
            exact this)
          have HE := Lib.hid (And.intro hfb hwa)
          clear hfb hwa HW
          go_upto_region 13 with fail
          rw [HE.out.1, HE.out.2]
          clear HE C0 C1 C2 C3
          have D0 : wa.cell? ⟨fb, 0, none⟩ = some (.string co) := HB0.out.cell 0
          have hlta := HB0.out.lt
          cases tw with
          | true =>
            have HE : Hid (R = ([], [], [], 7)) := Lib.hid (by rw [HD.out, if_pos rfl])
            go_wp2_with (at_lookup; refine wpList_look _ rfl _ _ _ _ rfl _ _ _ rfl rfl HLK1.out ?_)
            refine bodyPost_ret (results4 rfl _ _ _) rfl ?_
            rw [HE.out]
            exact ⟨_, _, _, rfl, MapV.nil, NewM.nil, Own.nil _, Own.nil _, HW1.out.be⟩
          | false =>
            have HNB : Hid (n < maxLen ∧ n0 + n < maxLen) := Lib.hid (by have := HN0.out; have := HL64.out; unfold maxLen; omega)
            go_wp2_with (first
              | (at_lookup; refine wpList_look _ rfl _ _ _ _ rfl _ _ _ rfl rfl HLK1.out ?_)
              | (at_mapUpdate; refine wpList_mapUpdate_own _ rfl _ _ _ 139 rfl 9 4 keyT Tryz.underlying139 heldV mb n _ rfl HW1.out.oe HNB.out.1 _ _ _ rfl rfl HKY.out _ [] rfl ?_))
            intro w5 hm5 hg5
            have hw5 := HW1.out.putM (met' := (co, ()) :: met) hg5 hm5
            have hb5 := HB0.out.grownBy hg5 (fun e => HNE.out.2 (Option.some.inj e))
            obtain ⟨sb, hsb⟩ : ∃ y, w5.heap.size = y := ⟨_, rfl⟩
            obtain ⟨wb, hwb⟩ : ∃ y, w5.alloc (.cells #[.int .i64 b1, .int .i64 b2, .int .i64 b3, .int .i64 b4] 89) = y := ⟨_, rfl⟩
            have hsb0 : Bk sb 89 #[.int .i64 b1, .int .i64 b2, .int .i64 b3, .int .i64 b4] wb := by rw [← hwb, ← hsb]; exact Bk.new _ _ _
            have HWB := Lib.hid (hw5.below (by rw [← hwb]; exact bAlloc w5 _ : Below w5.heap.size w5 wb))
            have HBB := Lib.hid (hb5.grows (by rw [← hwb]; exact Grows.of_alloc w5 _ : Grows w5 wb))
            have HSB := Lib.hid hsb0
            have HLK2 : Hid ((Instr.lookup 27 V (.string co) false).run Tryz.prog w5 = .ok (.agg #[.int .i64 b1, .int .i64 b2, .int .i64 b3, .int .i64 b4]) w5) := Lib.hid (by
              have := (HM.out.below hw5.be).look keyT kS_W Tryz.underlying27 (zeroSu w5) HKY.out
              rw [lkS, HBF.out] at this
              exact this)
            have D5 : w5.cell? ⟨fb, 0, none⟩ = some (.string co) := hb5.cell 0
            have hlt5 := hb5.lt
            have E0 : wb.cell? ⟨fb, 0, none⟩ = some (.string co) := HBB.out.cell 0
            have E1 : wb.cell? ⟨fb, 1, none⟩ = some (.int .i64 wo) := HBB.out.cell 1
            have E2 : wb.cell? ⟨fb, 2, none⟩ = some (.int .i64 fr) := HBB.out.cell 2
            have E3 : wb.cell? ⟨fb, 3, none⟩ = some (.int .i64 ce) := HBB.out.cell 3
            have S0 : wb.cell? ⟨sb, 0, none⟩ = some (.int .i64 b1) := hsb0.cell 0
            have S1 : wb.cell? ⟨sb, 1, none⟩ = some (.int .i64 b2) := hsb0.cell 1
            have S2 : wb.cell? ⟨sb, 2, none⟩ = some (.int .i64 b3) := hsb0.cell 2
            have S3 : wb.cell? ⟨sb, 3, none⟩ = some (.int .i64 b4) := hsb0.cell 3
            have HSE := Lib.hid (And.intro hsb hwb)
            clear hm5 hg5 hw5 hb5 hsb0 HW1 HB0 D0 HLK1 hsb hwb
            go_upto_region 17 with (at_lookup; refine wpList_look _ rfl _ _ _ _ rfl _ _ _ rfl rfl HLK2.out ?_)
            rw [HSE.out.1, HSE.out.2]
            clear HSE D5 hlt5
            go_wp2_with fail
            refine (HST.out _).mono ?_
            rintro e w6 ⟨rfl, hb6⟩
            have hw6 := HWB.out.below hb6
            have HB6 := Lib.hid (bkBel HBB.out hb6)
            have HS6 := Lib.hid (bkBel HSB.out hb6)
            have HW6 := Lib.hid hw6
            clear hb6 hw6 HWB HBB HSB E0 E1 E2 E3 S0 S1 S2 S3 HLK2
            by_cases hse : se = 0
            case neg =>
              have hnz : (se != 0) = true := by simpa using hse
              have HE : Hid (R = ([], [], [], se)) := Lib.hid (by rw [HD.out, if_neg (by simp), if_pos hse])
              have HFIN := Lib.hid (HW6.out.below (bAlloc w6 (.cells #[.int .i64 n1, .int .i64 n2, .int .i64 n3, .int .i64 n4] 89)))
              clear hse
              go_wp2
              refine bodyPost_ret (results4 rfl _ _ _) rfl ?_
              rw [HE.out]
              exact ⟨_, _, _, rfl, MapV.nil, NewM.nil, Own.nil _, Own.nil _, HFIN.out.be⟩
            subst hse
            have HD2 : Hid (allGo was base ((co, ()) :: met) ((co, (n1, n2, n3, n4)) :: out) (putI wk co (n3 - b3)) (putI fi co (n4 - b4)) (l.drop (n + 1)) = R) := Lib.hid (by rw [HD.out, if_neg (by simp), if_neg (by simp)])
            obtain ⟨bd1, bd2, bd3, bd4⟩ := HBD.out rfl
            obtain ⟨d3, hd3⟩ : ∃ y, n3 - b3 = y := ⟨_, rfl⟩
            obtain ⟨d4, hd4⟩ : ∃ y, n4 - b4 = y := ⟨_, rfl⟩
            have v3 : IntKind.i64.wrap (n3 - b3) = d3 := by rw [IntWalk.i64_in _ (by omega), hd3]
            have v4 : IntKind.i64.wrap (n4 - b4) = d4 := by rw [IntWalk.i64_in _ (by omega), hd4]
            rw [hd3, hd4] at HD2
            clear bd1 bd2 bd3 bd4 hd3 hd4 HBD HD HST HTW HBF
            obtain ⟨tb, htb⟩ : ∃ y, w6.heap.size = y := ⟨_, rfl⟩
            obtain ⟨wd, hwd⟩ : ∃ y, w6.alloc (.cells #[.int .i64 n1, .int .i64 n2, .int .i64 n3, .int .i64 n4] 89) = y := ⟨_, rfl⟩
            have HT7 : Hid (Bk tb 89 #[.int .i64 n1, .int .i64 n2, .int .i64 n3, .int .i64 n4] wd) := Lib.hid (by rw [← hwd, ← htb]; exact Bk.new _ _ _)
            have HB7 := Lib.hid (HB6.out.grows (by rw [← hwd]; exact Grows.of_alloc w6 _ : Grows w6 wd))
            have HS7 := Lib.hid (HS6.out.grows (by rw [← hwd]; exact Grows.of_alloc w6 _ : Grows w6 wd))
            have HW7 := Lib.hid (HW6.out.below (by rw [← hwd]; exact bAlloc w6 _ : Below w6.heap.size w6 wd))
            have HN7 : Hid (some fb ≠ some ob ∧ some sb ≠ some ob ∧ some tb ≠ some ob) := Lib.hid (by
              obtain ⟨es, ck, hob, _⟩ := HW7.out.oo
              refine ⟨fun e => ?_, fun e => ?_, fun e => ?_⟩
              · cases e; have := HB7.out; unfold Bk at this; rw [hob] at this; cases this
              · cases e; have := HS7.out; unfold Bk at this; rw [hob] at this; cases this
              · cases e; have := HT7.out; unfold Bk at this; rw [hob] at this; cases this)
            have F0 : wd.cell? ⟨fb, 0, none⟩ = some (.string co) := HB7.out.cell 0
            have T0 : wd.cell? ⟨tb, 0, none⟩ = some (.int .i64 n1) := HT7.out.cell 0
            have T1 : wd.cell? ⟨tb, 1, none⟩ = some (.int .i64 n2) := HT7.out.cell 1
            have T2 : wd.cell? ⟨tb, 2, none⟩ = some (.int .i64 n3) := HT7.out.cell 2
            have T3 : wd.cell? ⟨tb, 3, none⟩ = some (.int .i64 n4) := HT7.out.cell 3
            have HSE := Lib.hid (And.intro htb hwd)
            clear HB6 HS6 HW6 htb hwd
            go_upto_region 20 with fail
            rw [HSE.out.1, HSE.out.2]
            clear HSE
            go_wp2_with (at_mapUpdate; refine wpList_mapUpdate_own _ rfl _ _ _ 27 rfl 9 89 keyT Tryz.underlying27 heldV ob (n0 + n) _ rfl HW7.out.oo HNB.out.2 _ _ _ rfl rfl HKY.out _ [] rfl ?_)
            intro w8 hm8 hg8
            have HW8 := Lib.hid (HW7.out.putO (out' := (co, (n1, n2, n3, n4)) :: out) hg8 hm8)
            have HB8 := Lib.hid (HB7.out.grownBy hg8 HN7.out.1)
            have HS8 := Lib.hid (HS7.out.grownBy hg8 HN7.out.2.1)
            have HT8 := Lib.hid (HT7.out.grownBy hg8 HN7.out.2.2)
            have F8 : w8.cell? ⟨fb, 0, none⟩ = some (.string co) := HB8.out.cell 0
            have S8 : w8.cell? ⟨sb, 2, none⟩ = some (.int .i64 b3) := HS8.out.cell 2
            have T8 : w8.cell? ⟨tb, 2, none⟩ = some (.int .i64 n3) := HT8.out.cell 2
            clear hm8 hg8 F0 T0 T1 T2 T3 HW7 HB7 HS7 HT7 HN7
            go_wp2_with fail
            refine (so_put w.heap.size wv wk co d3 w8 HW8.out.wk HW8.out.be.size (by omega)).mono ?_
            rintro e w9 ⟨v9, rfl, ho9, hg9, hl9⟩
            have HW9 := Lib.hid (HW8.out.putW hg9 ho9 hl9)
            have HB9 := Lib.hid (HB8.out.grownBy hg9 (HW8.out.wk.ne_ HB8.out (by decide)))
            have HS9 := Lib.hid (HS8.out.grownBy hg9 (HW8.out.wk.ne_ HS8.out (by decide)))
            have HT9 := Lib.hid (HT8.out.grownBy hg9 (HW8.out.wk.ne_ HT8.out (by decide)))
            have F9 : w9.cell? ⟨fb, 0, none⟩ = some (.string co) := HB9.out.cell 0
            have S9 : w9.cell? ⟨sb, 3, none⟩ = some (.int .i64 b4) := HS9.out.cell 3
            have T9 : w9.cell? ⟨tb, 3, none⟩ = some (.int .i64 n4) := HT9.out.cell 3
            clear ho9 hg9 hl9 F8 S8 T8 HW8 HB8 HS8 HT8
            go_wp2_with fail
            refine (so_put w.heap.size fv fi co d4 w9 HW9.out.fi HW9.out.be.size (by omega)).mono ?_
            rintro e w10 ⟨v10, rfl, ho10, hg10, hl10⟩
            have HW10 := Lib.hid (HW9.out.putF hg10 ho10 hl10)
            have HWL : Hid ((putI wk co d3).length ≤ n + 1 ∧ (putI fi co d4).length ≤ n + 1) := Lib.hid ⟨Nat.le_trans (putI_len _ _ _) (by omega), Nat.le_trans (putI_len _ _ _) (by omega)⟩
            clear ho10 hg10 hl10 F9 S9 T9 HW9 HB9 HS9 HT9
            go_wp2
            go_roundg (l.length - (n + 1))
            case measure => omega
            case rel => exact ⟨_, _, n + 1, _, _, _, _, rfl, rfl, by omega, by go_num, HWL.out.1, HWL.out.2, HD2, HW10⟩
        · obtain rfl : n = l.length := by omega
          go_wp2
          refine bodyPost_ret (results4 rfl _ _ _) rfl ?_
          have h := HA.out
          rw [List.drop_length] at h
          have hi := HW.out
          exact ⟨_, _, _, by rw [← h]; rfl, by rw [← h]; exact Or.inr ⟨ob, rfl, hi.oo.mono (by have := HL64.out; omega)⟩, (by intro b e; cases e; exact hi.fr.1), by rw [← h]; exact hi.wk, by rw [← h]; exact hi.fi, hi.be⟩
    · intro key x1 x2 x3 x4 w1 cnt1 hkey hx hlx hat hrg1 hlt hg1 hen
      simp only [aggS] at hen ⊢
      have hout1 := HOO.out.kept hg1 (fun e => HFR.out.2.2.2.1 (Option.some.inj e))
      have hoe1 := HOE.out.kept hg1 (fun e => HFR.out.2.2.2.2.1 (Option.some.inj e))
      have hbe1 := HBE.out.grown hg1 HBE.out.size (fun j hj => by cases hj; exact HFR.out.2.2.2.2.2.1)
      have hnc : n0 - c < maxLen := by have := HN0.out; unfold maxLen; omega
      obtain ⟨tb, htb⟩ : ∃ y, w1.heap.size = y := ⟨_, rfl⟩
      obtain ⟨wb, hwb⟩ : ∃ y, w1.alloc (.cells #[.int .i64 x1, .int .i64 x2, .int .i64 x3, .int .i64 x4] 89) = y := ⟨_, rfl⟩
      have T0 : Bk tb 89 #[.int .i64 x1, .int .i64 x2, .int .i64 x3, .int .i64 x4] wb := by rw [← hwb, ← htb]; exact Bk.new _ _ _
      have hgb : w1.grownBy wb none := by rw [← hwb]; exact World.grownBy_alloc _ _ _
      have HOUT := Lib.hid (hout1.kept hgb (by simp))
      have HOEB := Lib.hid (hoe1.kept hgb (by simp))
      have HBEB := Lib.hid (hbe1.grown hgb hbe1.size (fun j hj => by cases hj))
      have HRGB := Lib.hid (hrg1.kept (Or.inr (fun e => by
        rcases HRG.out with ⟨_, _, h, _⟩ | ⟨b, h, _⟩
        · omega
        · rw [h] at e; cases e)) hgb (by simp) (by simp))
      have t0 : wb.cell? ⟨tb, 0, none⟩ = some (.int .i64 x1) := T0.cell 0
      have t1 : wb.cell? ⟨tb, 1, none⟩ = some (.int .i64 x2) := T0.cell 1
      have t2 : wb.cell? ⟨tb, 2, none⟩ = some (.int .i64 x3) := T0.cell 2
      have t3 : wb.cell? ⟨tb, 3, none⟩ = some (.int .i64 x4) := T0.cell 3
      have htl := T0.lt
      have HKY := Lib.hid hkey
      have HAT := Lib.hid hat
      have HVN : Hid (V ≠ .map none) := Lib.hid (fun e => by
        rcases HRG.out with ⟨_, _, h, _⟩ | ⟨b, h, _⟩
        · omega
        · rw [h] at e; cases e)
      have HWF := Lib.hid (And.intro htb hwb)
      clear hrg1 hg1 hout1 hoe1 hbe1 hgb T0 hkey hat HOO HOE HBE htb hwb
      go_upto_region 7 with fail
      rw [HWF.out.1, HWF.out.2]
      go_wp2_with (at_mapUpdate; refine wpList_mapUpdate_own _ rfl _ _ _ 27 rfl 9 89 keyT Tryz.underlying27 heldV ob _ _ rfl HOUT.out hnc _ _ _ rfl rfl HKY.out _ [] rfl ?_)
      intro w2 hout2 hg2
      have hrg2 := HRGB.out.kept (Or.inr HVN.out) hg2 (fun b hb e => by cases hb; exact HFR.out.2.2.2.2.2.2.1 e) (fun e => HFR.out.2.2.2.1 (Option.some.inj e).symm)
      have hoe2 := HOEB.out.kept hg2 (fun e => HFR.out.2.2.1 (Option.some.inj e).symm)
      have hbe2 := HBEB.out.grown hg2 HBEB.out.size (fun j hj => by cases hj; exact HFR.out.1)
      have HX := Lib.hid (And.intro hrg2 (And.intro hout2 (And.intro hoe2 hbe2)))
      clear hrg2 hout2 hg2 hoe2 hbe2
      go_wp2
      go_roundg cnt1
      case measure => omega
      case rel => exact ⟨cnt1, _, _, rfl, by omega, Lib.hid HX.out.1, Lib.hid (agree_step HAG.out HOUT.out.isMap (kS_W.isKey key) HAT.out), Lib.hid (HX.out.2.1.mono (by omega)), Lib.hid HX.out.2.2.1, Lib.hid HX.out.2.2.2⟩
end Go.Proofs.YtgepbkldgnjpfaaGreatDoor

/- attach: amounts, least, Left, wants. -/
namespace Go.Proofs.YtgepbkldgnjpfaaGreatDoor
open Go.RowKit Go.Sort Go.BigFrame Go.Maps

theorem at_bad (c : Int) (w : World) : Calls Tryz.prog 109 #[.int .i64 c] w fun e w' => e = .returned (.bool (!amtB c)) ∧ w = w' := by
  by_cases h0 : c < 0
  · have d0 : decide (c < (0 : Int)) = true := decide_eq_true h0
    have HF := Lib.hid (amtB_neg h0)
    clear h0
    go_enter Tryz.func109, Tryz.ntmps109
    go_wp2
    go_ret
    rw [HF.out]
    exact ⟨rfl, rfl⟩
  · have d0 : decide (c < (0 : Int)) = false := decide_eq_false h0
    have HF := Lib.hid (amtB_fit h0)
    clear h0
    go_enter Tryz.func109, Tryz.ntmps109
    go_wp2_with fail
    refine (ce_fit _ _).mono ?_
    rintro e w1 ⟨rfl, rfl⟩
    go_wp2
    go_ret
    rw [HF.out]
    exact ⟨rfl, rfl⟩
set_option maxHeartbeats 1000000 in
theorem at_index (l : List Int) (A : Option Addr) (cap : Nat) (w : World) (hn : l.length ≤ 1000000) (hs : Sl encC 1 w w.heap.size A l) :
    Calls Tryz.prog 145 #[.slice A l.length cap, .func (.func 109) #[] #[]] w fun e w' => ∃ i : Int, e = .returned (.int .i64 i) ∧ decide (0 ≤ i) = !(l.all amtB) ∧ w = w' := by
  obtain ⟨r, hr⟩ : ∃ r, l.all amtB = r := ⟨_, rfl⟩
  rw [hr]
  have HR := Lib.hid hr
  clear hr
  have HS := Lib.hid hs
  clear hs
  go_enter Tryz.func145, Tryz.ntmps145
  go_wp2
  go_loopw [8] (fun iv wr => ∃ (n : Nat), n ≤ l.length ∧ iv = .int .i64 n ∧ Hid ((l.drop n).all amtB = r) ∧ w = wr) (fun iv _ => l.length - (intOf iv).toNat)
  case atStart => exact ⟨0, Nat.zero_le _, rfl, HR, rfl⟩
  case round =>
    obtain ⟨n, hn1, rfl, HA, rfl⟩ := hrel
    by_cases hlt : n < l.length
    · obtain ⟨b, off, rfl, hB, hc⟩ := HS.out (by intro h; simp [h] at hlt)
      obtain ⟨x, hx⟩ : ∃ x, l[n]? = some x := ⟨_, List.getElem?_eq_getElem hlt⟩
      have C0 : w.cell? ⟨b, off + n, none⟩ = some (.int .i64 x) := by simpa using hc n _ hx 0 _ rfl
      have hdrop : l.drop n = x :: l.drop (n + 1) := by
        rw [List.drop_eq_getElem_cons hlt]
        congr 1
        have := List.getElem?_eq_getElem hlt
        rw [hx] at this
        exact (Option.some.inj this).symm
      have HD : Hid ((amtB x && (l.drop (n + 1)).all amtB) = r) := Lib.hid (by rw [← HA.out, hdrop, List.all_cons])
      clear hc hx hdrop
      go_wp2_with fail
      refine (at_bad _ _).mono ?_
      rintro e w1 ⟨rfl, rfl⟩
      obtain ⟨f, hf⟩ : ∃ f, amtB x = f := ⟨_, rfl⟩
      rw [hf] at HD ⊢
      cases f with
      | false =>
        have HE : Hid (r = false) := Lib.hid (by rw [← HD.out]; rfl)
        go_wp2
        go_ret
        rw [HE.out]
        exact ⟨_, rfl, decide_eq_true (by omega), rfl⟩
      | true =>
        have HE : Hid ((l.drop (n + 1)).all amtB = r) := Lib.hid (by rw [← HD.out]; rfl)
        go_wp2
        exact ⟨⟨n + 1, by omega, by go_num, HE, trivial⟩, by simp [intOf]; omega⟩
    · obtain rfl : n = l.length := by omega
      go_wp2
      go_ret
      have h := HA.out
      rw [List.drop_length] at h
      rw [← h]
      exact ⟨_, rfl, rfl, rfl⟩
theorem at_amounts (l : List Int) (A : Option Addr) (cap : Nat) (w : World) (hn : l.length ≤ 1000000) (hs : Sl encC 1 w w.heap.size A l) :
    Calls Tryz.prog 84 #[.slice A l.length cap] w fun e w' => e = .returned (.bool (l.all amtB)) ∧ w = w' := by
  have H1 : Hid (Calls Tryz.prog 108 #[.slice A l.length cap, .func (.func 109) #[] #[]] w fun e w' => e = .returned (.bool (!(l.all amtB))) ∧ w = w') := Lib.hid (by
    have H0 := Lib.hid (at_index l A cap w hn hs)
    clear hs
    obtain ⟨r, hr⟩ : ∃ r, l.all amtB = r := ⟨_, rfl⟩
    rw [hr] at H0 ⊢
    clear hr
    go_enter Tryz.func108, Tryz.ntmps108
    go_wp2_with fail
    refine H0.out.mono ?_
    rintro e w1 ⟨i, rfl, hi, rfl⟩
    go_wp2
    go_ret
    exact ⟨rfl, rfl⟩)
  clear hs
  obtain ⟨r, hr⟩ : ∃ r, l.all amtB = r := ⟨_, rfl⟩
  rw [hr] at H1 ⊢
  clear hr
  go_enter Tryz.func84, Tryz.ntmps84
  go_wp2_with fail
  refine H1.out.mono ?_
  rintro e w1 ⟨rfl, rfl⟩
  go_wp2
  go_ret
  cases r <;> exact ⟨rfl, rfl⟩
/-- The least of a number and others. -/
def leaL (a : Int) (l : List Int) : Int := l.foldl min a
set_option maxHeartbeats 1000000 in
theorem at_least (a : Int) (l : List Int) (A : Option Addr) (cap : Nat) (w : World) (hn : l.length ≤ 1000000) (hs : Sl encC 1 w w.heap.size A (a :: l)) :
    Calls Tryz.prog 85 #[.slice A (l.length + 1) cap] w fun e w' => e = .returned (.int .i64 (leaL a l)) ∧ w = w' := by
  have H1 : Hid (Calls Tryz.prog 110 #[.slice A (l.length + 1) cap] w fun e w' => e = .returned (.int .i64 (leaL a l)) ∧ w = w') := Lib.hid (by
    obtain ⟨r, hr⟩ : ∃ r, leaL a l = r := ⟨_, rfl⟩
    rw [hr]
    obtain ⟨b, off, rfl, hB, hc⟩ := hs (by simp)
    have C0 : w.cell? ⟨b, off, none⟩ = some (.int .i64 a) := by simpa using hc 0 a rfl 0 _ rfl
    have HC := Lib.hid hc
    have HR := Lib.hid hr
    clear hc hs hr
    go_enter Tryz.func110, Tryz.ntmps110
    go_wp2
    go_loopw [3, 4] (fun mv iv wr => ∃ (n : Nat) (m : Int), n ≤ l.length ∧ iv = .int .i64 ((n : Int) + 1) ∧ mv = .int .i64 m ∧ Hid (leaL m (l.drop n) = r) ∧ w = wr) (fun _ iv _ => l.length + 1 - (intOf iv).toNat)
    case atStart => exact ⟨0, a, Nat.zero_le _, rfl, rfl, HR, rfl⟩
    case round =>
      obtain ⟨n, m, hn1, rfl, rfl, HA, rfl⟩ := hrel
      by_cases hlt : n < l.length
      · obtain ⟨x, hx⟩ : ∃ x, l[n]? = some x := ⟨_, List.getElem?_eq_getElem hlt⟩
        have C1 : w.cell? ⟨b, off + (n + 1), none⟩ = some (.int .i64 x) := by simpa using HC.out (n + 1) x (by simpa using hx) 0 _ rfl
        have hdrop : l.drop n = x :: l.drop (n + 1) := by
          rw [List.drop_eq_getElem_cons hlt]
          congr 1
          have := List.getElem?_eq_getElem hlt
          rw [hx] at this
          exact (Option.some.inj this).symm
        have HD : Hid (leaL (min m x) (l.drop (n + 1)) = r) := Lib.hid (by rw [← HA.out, hdrop]; rfl)
        clear hx hdrop
        go_wp2
        exact ⟨⟨n + 1, min m x, by omega, by go_num, rfl, HD, trivial⟩, by simp [intOf]; omega⟩
      · obtain rfl : n = l.length := by omega
        go_wp2
        go_ret
        have h := HA.out
        rw [List.drop_length] at h
        rw [← h]
        exact ⟨rfl, rfl⟩)
  clear hs
  generalize leaL a l = r at *
  go_enter Tryz.func85, Tryz.ntmps85
  go_wp2_with fail
  refine H1.out.mono ?_
  rintro e w1 ⟨rfl, rfl⟩
  go_wp2
  go_ret
  exact ⟨rfl, rfl⟩
end Go.Proofs.YtgepbkldgnjpfaaGreatDoor

/- attach: Left, wants, Check. -/
namespace Go.Proofs.YtgepbkldgnjpfaaGreatDoor
open Go.RowKit Go.Sort Go.BigFrame Go.Maps

/-- An order: its code, its rank, its rate, its fixed amount, what it protects, its total. -/
structure Od where
  co : ByteArray
  ra : Int
  rt : Int
  fx : Int
  pr : Int
  tt : Int
def encO (x : Od) : List Value := [.string x.co, .int .i64 x.ra, .int .i64 x.rt, .int .i64 x.fx, .int .i64 x.pr, .int .i64 x.tt]
theorem encO_len (x : Od) : (encO x).length = 6 := rfl
/-- How much of an order's total is left. -/
def lefO (was : Ass ByteArray Int) (o : Od) : Int := if o.tt = 0 then 1125899906842624 else if o.tt < max (g0 was o.co) 0 then 0 else min (o.tt - max (g0 was o.co) 0) 1125899906842624
/-- What an order wants of a net. -/
def wanO (net : Int) (o : Od) : Int := if o.fx ≠ 0 then o.fx else (ofN (max net 0).toNat o.rt.toNat : Int)
def ordBad (o : Od) : Bool := decide (o.ra < 0) || (decide (99 < o.ra) || (decide (o.rt < 0) || (decide (1000000 < o.rt) || !(([o.fx, o.pr, o.tt] : List Int).all amtB))))
def chkO : Ass ByteArray Unit → List Od → Int
  | _, [] => 0
  | met, x :: r => if nameB (ls x.co) = false then 12 else if ordBad x = true then 2 else if (getA met x.co).isSome = true then 7 else chkO ((x.co, ()) :: met) r
theorem chkO_cons (met : Ass ByteArray Unit) (x : Od) (r : List Od) : chkO met (x :: r) = if nameB (ls x.co) = false then 12 else if ordBad x = true then 2 else if (getA met x.co).isSome = true then 7 else chkO ((x.co, ()) :: met) r := rfl
/-- What is wrong with orders. -/
def attE (l : List Od) : Int := if 64 < l.length then 5 else chkO [] l
theorem chkO_ok : ∀ (l : List Od) (met : Ass ByteArray Unit), chkO met l = 0 → ∀ o ∈ l, nameB (ls o.co) = true ∧ ordBad o = false ∧ getA met o.co = none
  | [], _, _, o, h => by cases h
  | x :: r, met, h, o, ho => by
    rw [chkO_cons] at h
    split at h
    · cases h
    split at h
    · cases h
    split at h
    · cases h
    rename_i h1 h2 h3
    rcases List.mem_cons.1 ho with rfl | ho
    · exact ⟨by simpa using h1, by simpa using h2, by simpa using h3⟩
    · obtain ⟨k1, k2, k3⟩ := chkO_ok r _ h o ho
      rw [getA_cons] at k3
      refine ⟨k1, k2, ?_⟩
      split at k3
      · cases k3
      · exact k3
theorem ordBad_ok {o : Od} (h : ordBad o = false) : (0 ≤ o.ra ∧ o.ra ≤ 99) ∧ (0 ≤ o.rt ∧ o.rt ≤ 1000000) ∧ (0 ≤ o.fx ∧ o.fx ≤ 1125899906842624) ∧ (0 ≤ o.pr ∧ o.pr ≤ 1125899906842624) ∧ 0 ≤ o.tt ∧ o.tt ≤ 1125899906842624 := by
  unfold ordBad at h
  simp only [List.all_cons, List.all_nil, Bool.and_true, Bool.or_eq_false_iff, decide_eq_false_iff_not, Bool.not_eq_false', Bool.and_eq_true] at h
  obtain ⟨h1, h2, h3, h4, h5, h6, h7⟩ := h
  have := amtB_bd h5
  have := amtB_bd h6
  have := amtB_bd h7
  omega
set_option maxHeartbeats 2000000 in
theorem at_Left (was : Ass ByteArray Int) (n0 : Nat) (V : Value) (o : Od) (w : World) (hm : MpC was n0 V w) (hco : o.co.size ≤ 9223372036854775807) (ht : 0 ≤ o.tt ∧ o.tt ≤ 1125899906842624) :
    Calls Tryz.prog 87 #[V, .agg #[.string o.co, .int .i64 o.ra, .int .i64 o.rt, .int .i64 o.fx, .int .i64 o.pr, .int .i64 o.tt]] w fun e w' => e = .returned (.int .i64 (lefO was o)) ∧ Below w.heap.size w w' := by
  obtain ⟨co, ra, rt, fx, pr, tt⟩ := o
  dsimp only at hco ht ⊢
  obtain ⟨r, hr⟩ : ∃ r, lefO was ⟨co, ra, rt, fx, pr, tt⟩ = r := ⟨_, rfl⟩
  rw [hr]
  obtain ⟨gw, hgw⟩ : ∃ r, g0 was co = r := ⟨_, rfl⟩
  have HR : Hid (r = if tt = 0 then 1125899906842624 else if tt < max gw 0 then 0 else min (tt - max gw 0) 1125899906842624) := Lib.hid (by rw [← hr, ← hgw]; rfl)
  obtain ⟨fb, hfb⟩ : ∃ x, w.heap.size = x := ⟨_, rfl⟩
  obtain ⟨wa, hwa⟩ : ∃ x, w.alloc (.cells #[.string co, .int .i64 ra, .int .i64 rt, .int .i64 fx, .int .i64 pr, .int .i64 tt] 61) = x := ⟨_, rfl⟩
  have hb0 : Bk fb 61 #[.string co, .int .i64 ra, .int .i64 rt, .int .i64 fx, .int .i64 pr, .int .i64 tt] wa := by rw [← hwa, ← hfb]; exact Bk.new _ _ _
  have hba : Below w.heap.size w wa := by rw [← hwa]; exact bAlloc w _
  have HLK : Hid ((Instr.lookup 31 V (.string co) false).run Tryz.prog wa = .ok (.int .i64 gw) wa) := Lib.hid (by
    have := (hm.below hba).look keyT kS_W Tryz.underlying31 (zeroCe wa) (keyOfS (s := co) (by unfold maxLen; omega))
    rw [lkC, hgw] at this
    exact this)
  have HBA := Lib.hid hba
  have C0 : wa.cell? ⟨fb, 0, none⟩ = some (.string co) := hb0.cell 0
  have C5 : wa.cell? ⟨fb, 5, none⟩ = some (.int .i64 tt) := hb0.cell 5
  have hlt := hb0.lt
  have HT := Lib.hid ht
  obtain ⟨mg, hmg⟩ : ∃ y, max gw 0 = y := ⟨_, rfl⟩
  rw [hmg] at HR
  have HMG : Hid (0 ≤ mg) := Lib.hid (by omega)
  clear hr hgw hba hb0 ht hm
  go_enter Tryz.func87, Tryz.ntmps87
  go_upto_region 1 with fail
  clear hwa hfb
  by_cases h0 : tt = 0
  · subst h0
    have HE : Hid (r = 1125899906842624) := Lib.hid (by rw [HR.out, if_pos rfl])
    go_wp2
    go_ret
    rw [HE.out]
    exact ⟨rfl, HBA.out⟩
  have b0 : (tt == 0) = false := beq_eq_false_iff_ne.2 h0
  by_cases h1 : tt < mg
  · have d1 : decide (tt < mg) = true := decide_eq_true h1
    have HE : Hid (r = 0) := Lib.hid (by rw [HR.out, if_neg h0, if_pos h1])
    clear h0 h1
    go_wp2_with (at_lookup; refine wpList_look _ rfl _ _ _ _ rfl _ _ _ rfl rfl HLK.out ?_)
    go_ret
    rw [HE.out]
    exact ⟨rfl, HBA.out⟩
  have d1 : decide (tt < mg) = false := decide_eq_false h1
  have HE : Hid (r = leaL (tt - mg) [1125899906842624]) := Lib.hid (by rw [HR.out, if_neg h0, if_neg h1]; rfl)
  obtain ⟨df, hdf⟩ : ∃ y, tt - mg = y := ⟨_, rfl⟩
  have v1 : IntKind.i64.wrap (tt - mg) = df := by rw [IntWalk.i64_in _ (by have := HT.out; have := HMG.out; omega), hdf]
  rw [hdf] at HE
  have HX : Hid (∀ A cap W, Sl encC 1 W W.heap.size A [df, 1125899906842624] → Calls Tryz.prog 85 #[.slice A 2 cap] W fun e w' => e = .returned (.int .i64 r) ∧ W = w') := Lib.hid fun A cap W h => by rw [HE.out]; exact at_least df [1125899906842624] A cap W (by simp) h
  clear h0 h1 hdf
  go_wp2_with (at_lookup; refine wpList_look _ rfl _ _ _ _ rfl _ _ _ rfl rfl HLK.out ?_)
  refine (HX.out _ _ _ ?_).mono ?_
  · have := slNewC wa 28 [df, 1125899906842624]
    simpa using this
  rintro e w1 ⟨rfl, rfl⟩
  go_wp2
  go_ret
  exact ⟨rfl, bTrans HBA.out (bAlloc _ _)⟩
theorem at_wants (net : Int) (o : Od) (w : World) (hnet : net ≤ 1125899906842624) (hrt : 0 ≤ o.rt ∧ o.rt ≤ 1000000) :
    Calls Tryz.prog 86 #[.int .i64 net, .agg #[.string o.co, .int .i64 o.ra, .int .i64 o.rt, .int .i64 o.fx, .int .i64 o.pr, .int .i64 o.tt]] w fun e w' => e = .returned (.int .i64 (wanO net o)) ∧ Below w.heap.size w w' := by
  obtain ⟨co, ra, rt, fx, pr, tt⟩ := o
  dsimp only at hrt ⊢
  obtain ⟨r, hr⟩ : ∃ r, wanO net ⟨co, ra, rt, fx, pr, tt⟩ = r := ⟨_, rfl⟩
  rw [hr]
  obtain ⟨mn, hmn⟩ : ∃ y, max net 0 = y := ⟨_, rfl⟩
  obtain ⟨q, hq⟩ : ∃ q, ofN mn.toNat rt.toNat = q := ⟨_, rfl⟩
  have HR : Hid (r = if fx ≠ 0 then fx else (q : Int)) := Lib.hid (by rw [← hr, ← hq, ← hmn]; rfl)
  have HO : Hid (∀ W, Calls Tryz.prog 99 #[.int .i64 mn, .int .i64 rt, .int .i64 1] W fun e w' => e = .returned (.tuple #[.int .i64 q, .int .i64 0]) ∧ Below W.heap.size W w') := Lib.hid fun W => by
    have h := rt_of mn.toNat rt.toNat W (by omega) (by omega)
    rw [hq, show ((mn.toNat : Nat) : Int) = mn by omega, show ((rt.toNat : Nat) : Int) = rt by omega] at h
    exact h
  obtain ⟨fb, hfb⟩ : ∃ x, w.heap.size = x := ⟨_, rfl⟩
  obtain ⟨wa, hwa⟩ : ∃ x, w.alloc (.cells #[.string co, .int .i64 ra, .int .i64 rt, .int .i64 fx, .int .i64 pr, .int .i64 tt] 61) = x := ⟨_, rfl⟩
  have hb0 : Bk fb 61 #[.string co, .int .i64 ra, .int .i64 rt, .int .i64 fx, .int .i64 pr, .int .i64 tt] wa := by rw [← hwa, ← hfb]; exact Bk.new _ _ _
  have HBA : Hid (Below w.heap.size w wa) := Lib.hid (by rw [← hwa]; exact bAlloc w _)
  have C2 : wa.cell? ⟨fb, 2, none⟩ = some (.int .i64 rt) := hb0.cell 2
  have C3 : wa.cell? ⟨fb, 3, none⟩ = some (.int .i64 fx) := hb0.cell 3
  have hlt := hb0.lt
  clear hr hq hb0 hrt hnet
  go_enter Tryz.func86, Tryz.ntmps86
  go_upto_region 1 with fail
  clear hwa hfb
  by_cases h0 : fx = 0
  · subst h0
    have HE : Hid (r = q) := Lib.hid (by rw [HR.out, if_neg (by simp)])
    go_wp2_with fail
    refine (HO.out _).mono ?_
    rintro e w1 ⟨rfl, hb⟩
    have HB := Lib.hid hb
    clear hb
    go_wp2
    go_ret
    rw [HE.out]
    exact ⟨rfl, bTrans HBA.out HB.out⟩
  · have b0 : (fx != 0) = true := by simpa using h0
    have HE : Hid (r = fx) := Lib.hid (by rw [HR.out, if_pos h0])
    clear h0
    go_wp2
    go_ret
    rw [HE.out]
    exact ⟨rfl, HBA.out⟩
end Go.Proofs.YtgepbkldgnjpfaaGreatDoor
