/- Merged from: St4 St5 St6. -/
import Derived.Test.YtmngghglcgmkeaaGreatDoorBase
import Derived.Test.YtmngghglcgmkeaaGreatDoorChks
import Derived.Deep.Cut
import Derived.OwnWalk
import Derived.Deep.RegionLaw
import Derived.Deep.Upon
import Derived.Laws.CopyOwn
/- The store with a fact more. -/
namespace Go.Proofs.YtmngghglcgmkeaaGreatDoor
open Go.RowKit Go.Sort

/-- The store with a fact more, and what is wrong. -/
def addL (L : List Fa) (f : Fa) : List Fa × Int :=
  if 4096 ≤ L.length then (L, 5)
  else if chkF f ≠ 0 then (L, chkF f)
  else if 0 ≤ placeI L f.id then (L, 7)
  else if canE L f ≠ 0 then (L, canE L f)
  else (L ++ [f], 0)
theorem chk_cancel {f : Fa} (h : chkF f = 0) : f.ki = 18 → 1 ≤ f.nu ∧ f.nu ≤ 4096 := by
  intro hk
  unfold chkF at h
  by_cases h1 : f.ki < 1 ∨ 18 < f.ki
  · rw [if_pos h1] at h; omega
  rw [if_neg h1] at h
  by_cases h2 : firmB f.ki ≠ decide (f.pe = 0)
  · rw [if_pos h2] at h; omega
  rw [if_neg h2] at h
  by_cases h3 : daysE f ≠ 0
  · rw [if_pos h3] at h; exact absurd h h3
  rw [if_neg h3] at h
  by_cases h4 : codeB f.ki (ls f.co) = false
  · rw [if_pos h4] at h; omega
  rw [if_neg h4] at h
  by_cases h5 : f.nu < lowN f.ki ∨ highN f.ki < f.nu
  · rw [if_pos h5] at h; omega
  have e1 : lowN 18 = 1 := rfl
  have e2 : highN 18 = 4096 := rfl
  rw [hk, e1, e2] at h5
  omega
theorem factInfo : (Tryz.prog.info? 26).map (fun i => (i.zero, i.size, i.bytes)) = some (some (.agg #[.int .u32 0, .int .u32 0, .int .i64 0, .int .i64 0, .int .i64 0, .string ⟨#[]⟩, .int .i64 0, .string ⟨#[]⟩]), 8, 72) := by kernel_rfl
theorem bDrewB (w : World) (B : Nat) : Below B w w.drew := ⟨rfl, rfl, rfl, Nat.le_refl _, fun _ _ => rfl⟩
/-- copy, by its run, as one step of a region that draws. -/
theorem step_copyF {P : Program} {ops : Array Oper} {o : Oper} {a : Act} {w w' : World} {K : Act → World → Prop} {Q : Exit → Act → World → Prop} {E : Prop} (hgd : o.guard = none) (d s : Operand) (dT sT : TypeId)
    (ho : o.op = .call { callee := .builtin .copy, args := #[d, s], argTypes := #[dT, sT] }) (n : Nat) (vd vs : Value) (hrun : ∀ ty, (Builtin.copy_ #[dT, sT] ty #[vd, vs]).run P w = .ok (goInt n) w') (hd : a.eval d = vd) (hs : a.eval s = vs)
    (h : K (a.put o.dst (goInt n)) w') :
    if Region.wanted o (yielded ops a.tmps) = true then Oper.wp P o a w K Q else E := by
  have hw : Region.wanted o (yielded ops a.tmps) = true := by simp [Region.wanted, hgd]
  rw [if_pos hw]
  unfold Oper.wp
  simp [execOp, ho, resolve, invoke, builtin, hd, hs, hrun, Result.andThen]
  exact h
/-- make of some facts. -/
theorem run_makeF (n : Nat) (hn : n ≤ 5000) : ∃ ZC : List Value, ZC.length = n * 8 ∧ ∀ (W : World), (Instr.makeSlice 22 (.int .i64 n) (.int .i64 n)).run Tryz.prog W = .ok (.slice (some ⟨W.heap.size, 0, none⟩) n n) (W.alloc (.cells ZC.toArray 26)) := by
  obtain ⟨i, h1, h2, h3, h4⟩ := info_parts factInfo
  refine ⟨(madeCells (Value.agg #[.int .u32 0, .int .u32 0, .int .i64 0, .int .i64 0, .int .i64 0, .string ⟨#[]⟩, .int .i64 0, .string ⟨#[]⟩]).cells (n * 8)).toList, by rw [Array.length_toList, size_madeCells], fun W => ?_⟩
  have h := run_makeSlice (P := Tryz.prog) W 22 26 i _ Tryz.underlying22 h1 h2 .i64 .i64 n n (by omega) (by omega) (by rw [h3, Int.toNat_natCast]; omega) (by rw [h4]; omega) (by omega)
  rw [h3, Int.toNat_natCast] at h
  rw [h, Array.toArray_toList]
/-- The new row, filled. -/
theorem rowAdd (L : List Fa) (f : Fa) (Z : List Value) {W W' : World} {g : Nat} (hW : W.heap[g]? = some (.cells (rowF L ++ Z).toArray 26 (0, 0))) (hZ : Z.length = 8) (he : W' = W.setCells g (L.length * 8) (encF f)) : SlF W' (some ⟨g, 0, none⟩) (L ++ [f]) := by
  subst he
  have hc : ∀ i u, (rowF L ++ Z)[i]? = some u → W.cell? ⟨g, i, none⟩ = some u := by
    intro i u hu
    unfold World.cell?
    rw [hW]
    simpa using hu
  have hin : ∀ j, j < (encF f).length → (W.cell? ⟨g, L.length * 8 + j, none⟩).isSome = true := by
    intro j hj
    rw [encF_len] at hj
    obtain ⟨u, hu⟩ : ∃ u, (rowF L ++ Z)[L.length * 8 + j]? = some u := ⟨_, List.getElem?_eq_getElem (by rw [List.length_append, rowF_len, hZ]; omega)⟩
    rw [hc _ _ hu]; rfl
  have hlt : g < W.heap.size := (Array.getElem?_eq_some_iff.1 hW).1
  have hsz : (W.setCells g (L.length * 8) (encF f)).heap.size = W.heap.size := by
    unfold encF
    simp [World.setCells, World.setCell]
  intro _
  refine ⟨g, 0, rfl, by rw [hsz]; exact hlt, fun i x hx j u hu => ?_⟩
  have hj : j < 8 := by have := (List.getElem?_eq_some_iff.1 hu).1; rwa [encF_len] at this
  rw [Nat.zero_add]
  rcases Nat.lt_or_ge i L.length with hi | hi
  · rw [World.cell?_setCells_out g (encF f) _ W _ (fun _ _ => .inl (by simp only; omega))]
    rw [List.getElem?_append_left hi] at hx
    refine hc _ _ ?_
    have h1 := rowF_at L i x hx j u hu
    rw [List.getElem?_append_left (by have := (List.getElem?_eq_some_iff.1 h1).1; exact this)]
    exact h1
  · have hi0 : i = L.length := by
      have := (List.getElem?_eq_some_iff.1 hx).1
      simp at this; omega
    subst hi0
    have hxf : x = f := by simpa using hx.symm
    subst hxf
    rw [World.cell?_setCells_in g (encF x) _ W hin j (by rw [encF_len]; exact hj)]
    rw [← hu, List.getElem?_eq_getElem]
theorem row_some {w : World} {g n : Nat} {L : List Fa} {ZC : List Value} {t : TypeId} {j : Nat} (h : w.heap[g]? = some (.cells (rowF L ++ ZC.drop (L.length * 8)).toArray t (0, 0))) (hj : j < L.length * 8 + n ∧ ZC.length = (L.length + 1) * 8 ∧ n = 8) : ∃ z, w.cell? ⟨g, j, none⟩ = some z := by
  rw [cell_of_row w g j _ _ _ h]
  have : j < (rowF L ++ ZC.drop (L.length * 8)).toArray.size := by simp [rowF_len]; omega
  exact ⟨_, Array.getElem?_eq_getElem this⟩
/-- A store's value. -/
def StIs (v : Value) (L : List Fa) (w : World) : Prop := ∃ A cap, v = .agg #[.slice A L.length cap] ∧ L.length ≤ cap ∧ SlF w A L
def addR (L : List Fa) (f : Fa) (e : Ending) (w' : World) : Prop := ∃ A cap, e = .returned (.tuple #[.agg #[.slice A (addL L f).1.length cap], .int .i64 (addL L f).2]) ∧ (addL L f).1.length ≤ cap ∧ SlF w' A (addL L f).1
/-- What lies in memory at an Add. -/
structure AM (w W : World) (sb fb rb : Nat) (S : Value) (f : Fa) : Prop where
  st : Bk sb 33 #[S] W
  fa : Bk fb 26 (FA f) W
  re : Bk rb 33 #[.slice none 0 0] W
  bel : Below w.heap.size w W
theorem AM.below {w W W' : World} {sb fb rb : Nat} {S : Value} {f : Fa} (h : AM w W sb fb rb S f) (hb : Below W.heap.size W W') : AM w W' sb fb rb S f :=
  ⟨(hb.block sb h.st.lt).trans h.st, (hb.block fb h.fa.lt).trans h.fa, (hb.block rb h.re.lt).trans h.re, bTrans h.bel hb⟩
theorem AM.row {w W : World} {sb fb rb g : Nat} {S : Value} {f : Fa} (h : AM w W sb fb rb S f) (hg : w.heap.size ≤ g ∧ sb ≠ g ∧ fb ≠ g ∧ rb ≠ g) (cs : Array Value) : AM w (W.setRow g cs) sb fb rb S f :=
  ⟨(setRow_other W g sb cs hg.2.1).trans h.st, (setRow_other W g fb cs hg.2.2.1).trans h.fa, (setRow_other W g rb cs hg.2.2.2).trans h.re, below_setRow h.bel hg.1 cs⟩
theorem AM.cells {w W : World} {sb fb rb g : Nat} {S : Value} {f : Fa} (h : AM w W sb fb rb S f) (hg : w.heap.size ≤ g ∧ sb ≠ g ∧ fb ≠ g ∧ rb ≠ g) (o : Nat) (vs : List Value) : AM w (W.setCells g o vs) sb fb rb S f := by
  have hb : ∀ (vs : List Value) (o : Nat) (W : World), Below w.heap.size w W → Below w.heap.size w (W.setCells g o vs) := by
    intro vs
    induction vs with
    | nil => exact fun o W h => h
    | cons v vs ih => exact fun o W h => ih _ _ (h.setCell (p := ⟨g, o, none⟩) hg.1 v)
  exact ⟨(World.heap_setCells_other W g o vs h.st.lt hg.2.1).trans h.st, (World.heap_setCells_other W g o vs h.fa.lt hg.2.2.1).trans h.fa, (World.heap_setCells_other W g o vs h.re.lt hg.2.2.2).trans h.re, hb vs o W h.bel⟩
theorem SlF.put {w : World} {g rb : Nat} {L : List Fa} (h : SlF w (some ⟨g, 0, none⟩) L) (hne : rb ≠ g) (v : Value) : SlF (w.setCell ⟨rb, 0, none⟩ v) (some ⟨g, 0, none⟩) L := fun hl => by
  obtain ⟨b, off, e, hlt, hc⟩ := h hl
  injection e with e
  injection e with e1 e2
  subst e1; subst e2
  exact ⟨g, 0, rfl, by simpa using hlt, fun i x hx j u hu => (World.cell?_setCells_out rb [v] 0 w _ (fun hb _ => absurd hb (Ne.symm hne))).trans (hc i x hx j u hu)⟩
theorem AM.start (w : World) (S : Value) (f : Fa) {sb fb rb : Nat} {w3 : World} (h1 : w.heap.size = sb) (h2 : sb + 1 = fb) (h3 : fb + 1 = rb) (hw : ((w.alloc (.cells #[S] 33)).alloc (.cells (FA f) 26)).alloc (.cells #[.slice none 0 0] 33) = w3) : AM w w3 sb fb rb S f := by
  subst hw; subst h3; subst h2; subst h1
  have s1 : (w.alloc (.cells #[S] 33)).heap.size = w.heap.size + 1 := by simp
  have s2 : ((w.alloc (.cells #[S] 33)).alloc (.cells (FA f) 26)).heap.size = w.heap.size + 1 + 1 := by simp
  have b1 : Bk w.heap.size 33 #[S] (w.alloc (.cells #[S] 33)) := Bk.new _ _ _
  have b2 : Bk (w.heap.size + 1) 26 (FA f) ((w.alloc (.cells #[S] 33)).alloc (.cells (FA f) 26)) := by
    have := Bk.new (w.alloc (.cells #[S] 33)) 26 (FA f)
    rwa [s1] at this
  have b3 : Bk (w.heap.size + 1 + 1) 33 #[.slice none 0 0] (((w.alloc (.cells #[S] 33)).alloc (.cells (FA f) 26)).alloc (.cells #[.slice none 0 0] 33)) := by
    have := Bk.new ((w.alloc (.cells #[S] 33)).alloc (.cells (FA f) 26)) 33 #[.slice none 0 0]
    rwa [s2] at this
  exact ⟨(b1.grows (.of_alloc _ _)).grows (.of_alloc _ _), b2.grows (.of_alloc _ _), b3, bTrans (bTrans (bAlloc w _) (bAlloc _ _)) (bAlloc _ _)⟩

set_option maxHeartbeats 4000000 in
set_option maxRecDepth 100000 in
theorem st_Add (L : List Fa) (A : Option Addr) (cap : Nat) (f : Fa) (w : World) (hn : L.length ≤ 4096) (hcap : L.length ≤ cap) (hs : SlF w A L) (hf : Fit f) (hT : Tb w) :
    Calls Tryz.prog 10 #[.agg #[.slice A L.length cap], .agg (FA f)] w fun e w' => addR L f e w' ∧ Below w.heap.size w w' := by
  obtain ⟨sb, hsb⟩ : ∃ x, w.heap.size = x := ⟨_, rfl⟩
  obtain ⟨fb, hfb⟩ : ∃ x, sb + 1 = x := ⟨_, rfl⟩
  obtain ⟨rb, hrb⟩ : ∃ x, fb + 1 = x := ⟨_, rfl⟩
  obtain ⟨w3, hw3⟩ : ∃ x, ((w.alloc (.cells #[.slice A L.length cap] 33)).alloc (.cells (FA f) 26)).alloc (.cells #[.slice none 0 0] 33) = x := ⟨_, rfl⟩
  have HM := Lib.hid (AM.start w _ f hsb hfb hrb hw3)
  have HS := Lib.hid hs
  have HCAP := Lib.hid hcap
  have HT := Lib.hid hT
  have HF := Lib.hid hf
  have HNE : Hid (w.heap.size ≤ rb ∧ sb ≠ rb ∧ fb ≠ rb ∧ sb ≠ fb) := Lib.hid (by omega)
  have HCK := Lib.hid (fun W hT => fc_Check f W hf hT)
  have HPL := Lib.hid (fun W hs => st_place L A cap f.id W (by omega) hs)
  have HAD : Hid (addL L f = if 4096 ≤ L.length then (L, 5) else if chkF f ≠ 0 then (L, chkF f) else if 0 ≤ placeI L f.id then (L, 7) else if canE L f ≠ 0 then (L, canE L f) else (L ++ [f], 0)) := Lib.hid rfl
  clear hs hT hf hcap
  unfold valF at HCK
  unfold FA at hw3 ⊢
  go_enter Tryz.func10, Tryz.ntmps10
  go_upto_region 1 with fail
  clear hsb hfb hrb hw3
  have S0 : w3.cell? ⟨sb, 0, none⟩ = some (.slice A L.length cap) := HM.out.st.cell 0
  by_cases hbig : (4096 : Int) ≤ (L.length : Int)
  · have LL : Hid (addL L f = (L, 5)) := Lib.hid (by rw [HAD.out, if_pos (by omega)])
    clear S0
    have S0 : w3.cell? ⟨sb, 0, none⟩ = some (.slice A L.length cap) := HM.out.st.cell 0
    have R0 : w3.cell? ⟨rb, 0, none⟩ = some (.slice none 0 0) := HM.out.re.cell 0
    have G0 : w3.frozen? ⟨rb, 0, none⟩ = false := HM.out.re.frozen 0
    go_wp2
    have z0 : (w3.setCell ⟨rb, 0, none⟩ (.slice A L.length cap)).cell? ⟨rb, 0, none⟩ = some (.slice A L.length cap) := (HM.out.re.set_ 0 _).cell 0
    have hbz : Below w.heap.size w (w3.setCell ⟨rb, 0, none⟩ (.slice A L.length cap)) := HM.out.bel.setCell (p := ⟨rb, 0, none⟩) HNE.out.1 _
    clear S0 R0 G0
    generalize w3.setCell ⟨rb, 0, none⟩ (.slice A L.length cap) = wz at *
    exact bodyPost_ret (v := .tuple #[.agg #[.slice A L.length cap], .int .i64 (5)]) (by simp [results, Tryz.results10, go_sem, z0]) rfl ⟨⟨A, cap, by rw [LL.out], by rw [LL.out]; exact HCAP.out, by rw [LL.out]; exact HS.out.below hbz⟩, hbz⟩
  have HA1 : Hid (addL L f = if chkF f ≠ 0 then (L, chkF f) else if 0 ≤ placeI L f.id then (L, 7) else if canE L f ≠ 0 then (L, canE L f) else (L ++ [f], 0)) := Lib.hid (by rw [HAD.out, if_neg (by omega)])
  go_upto_region 4 with fail
  clear S0
  have F0 : w3.cell? ⟨fb, 0, none⟩ = some (.int .u32 f.id) := HM.out.fa.cell 0
  have F1 : w3.cell? ⟨fb, 1, none⟩ = some (.int .u32 f.pe) := HM.out.fa.cell 1
  have F2 : w3.cell? ⟨fb, 2, none⟩ = some (.int .i64 f.ki) := HM.out.fa.cell 2
  have F3 : w3.cell? ⟨fb, 3, none⟩ = some (.int .i64 f.fr) := HM.out.fa.cell 3
  have F4 : w3.cell? ⟨fb, 4, none⟩ = some (.int .i64 f.to) := HM.out.fa.cell 4
  have F5 : w3.cell? ⟨fb, 5, none⟩ = some (.string f.co) := HM.out.fa.cell 5
  have F6 : w3.cell? ⟨fb, 6, none⟩ = some (.int .i64 f.nu) := HM.out.fa.cell 6
  have F7 : w3.cell? ⟨fb, 7, none⟩ = some (.string f.tx) := HM.out.fa.cell 7
  go_wp2_with fail
  refine (HCK.out _ (HT.out.below HM.out.bel)).mono ?_
  rintro e w4 ⟨rfl, hb4⟩
  have HM4 := Lib.hid (HM.out.below hb4)
  clear F0 F1 F2 F3 F4 F5 F6 F7 hb4
  have HCC := Lib.hid (fun h W hs => st_cancel L A cap f W (by omega) hs (chk_cancel h))
  unfold FA at HCC
  generalize chkF f = ce at *
  by_cases hce : ce = 0
  · have bce : (ce != 0) = false := by rw [hce]; rfl
    have HCE := Lib.hid hce
    have HA2 : Hid (addL L f = if 0 ≤ placeI L f.id then (L, 7) else if canE L f ≠ 0 then (L, canE L f) else (L ++ [f], 0)) := Lib.hid (by rw [HA1.out, if_neg (fun h => h hce)])
    clear hce
    go_upto_region 7 with fail
    have S0 : w4.cell? ⟨sb, 0, none⟩ = some (.slice A L.length cap) := HM4.out.st.cell 0
    have F0 : w4.cell? ⟨fb, 0, none⟩ = some (.int .u32 f.id) := HM4.out.fa.cell 0
    go_wp2_with fail
    refine (HPL.out _ (HS.out.below HM4.out.bel)).mono ?_
    rintro e w5 ⟨rfl, hb5⟩
    have HM5 := Lib.hid (HM4.out.below hb5)
    clear S0 F0 hb5
    generalize placeI L f.id = pl at *
    by_cases hpl : 0 ≤ pl
    · have LL : Hid (addL L f = (L, 7)) := Lib.hid (by rw [HA2.out, if_pos hpl])
      have S0 : w5.cell? ⟨sb, 0, none⟩ = some (.slice A L.length cap) := HM5.out.st.cell 0
      have R0 : w5.cell? ⟨rb, 0, none⟩ = some (.slice none 0 0) := HM5.out.re.cell 0
      have G0 : w5.frozen? ⟨rb, 0, none⟩ = false := HM5.out.re.frozen 0
      go_wp2
      have z0 : (w5.setCell ⟨rb, 0, none⟩ (.slice A L.length cap)).cell? ⟨rb, 0, none⟩ = some (.slice A L.length cap) := (HM5.out.re.set_ 0 _).cell 0
      have hbz : Below w.heap.size w (w5.setCell ⟨rb, 0, none⟩ (.slice A L.length cap)) := HM5.out.bel.setCell (p := ⟨rb, 0, none⟩) HNE.out.1 _
      clear S0 R0 G0
      generalize w5.setCell ⟨rb, 0, none⟩ (.slice A L.length cap) = wz at *
      exact bodyPost_ret (v := .tuple #[.agg #[.slice A L.length cap], .int .i64 (7)]) (by simp [results, Tryz.results10, go_sem, z0]) rfl ⟨⟨A, cap, by rw [LL.out], by rw [LL.out]; exact HCAP.out, by rw [LL.out]; exact HS.out.below hbz⟩, hbz⟩
    have HA3 : Hid (addL L f = if canE L f ≠ 0 then (L, canE L f) else (L ++ [f], 0)) := Lib.hid (by rw [HA2.out, if_neg hpl])
    have hpl2 : ¬ 0 ≤ pl := hpl
    clear hpl
    go_upto_region 9 with fail
    have S0 : w5.cell? ⟨sb, 0, none⟩ = some (.slice A L.length cap) := HM5.out.st.cell 0
    have F0 : w5.cell? ⟨fb, 0, none⟩ = some (.int .u32 f.id) := HM5.out.fa.cell 0
    have F1 : w5.cell? ⟨fb, 1, none⟩ = some (.int .u32 f.pe) := HM5.out.fa.cell 1
    have F2 : w5.cell? ⟨fb, 2, none⟩ = some (.int .i64 f.ki) := HM5.out.fa.cell 2
    have F3 : w5.cell? ⟨fb, 3, none⟩ = some (.int .i64 f.fr) := HM5.out.fa.cell 3
    have F4 : w5.cell? ⟨fb, 4, none⟩ = some (.int .i64 f.to) := HM5.out.fa.cell 4
    have F5 : w5.cell? ⟨fb, 5, none⟩ = some (.string f.co) := HM5.out.fa.cell 5
    have F6 : w5.cell? ⟨fb, 6, none⟩ = some (.int .i64 f.nu) := HM5.out.fa.cell 6
    have F7 : w5.cell? ⟨fb, 7, none⟩ = some (.string f.tx) := HM5.out.fa.cell 7
    go_wp2_with fail
    refine (HCC.out HCE.out _ (HS.out.below HM5.out.bel)).mono ?_
    rintro e w6 ⟨rfl, hb6⟩
    have HM6 := Lib.hid (HM5.out.below hb6)
    clear S0 F0 F1 F2 F3 F4 F5 F6 F7 hb6
    generalize canE L f = ca at *
    by_cases hca : ca = 0
    · have bca : (ca != 0) = false := by rw [hca]; rfl
      have LL : Hid (addL L f = (L ++ [f], 0)) := Lib.hid (by rw [HA3.out, if_neg (fun h => h hca)])
      clear hca
      obtain ⟨ZC, hZC, hmk⟩ := run_makeF (L.length + 1) (by omega)
      rw [show ((L.length + 1 : Nat) : Int) = (L.length : Int) + 1 by omega] at hmk
      go_upto_region 13 with fail
      obtain ⟨g, hg⟩ : ∃ x, w6.heap.size = x := ⟨_, rfl⟩
      obtain ⟨w7, hw7⟩ : ∃ x, w6.alloc (.cells ZC.toArray 26) = x := ⟨_, rfl⟩
      have HM7 : Hid (AM w w7 sb fb rb (.slice A L.length cap) f) := Lib.hid (HM6.out.below (by rw [← hw7]; exact bAlloc w6 _))
      have HG7 : Hid (w7.drew.heap[g]? = some (.cells ZC.toArray 26 (0, 0))) := Lib.hid (by rw [← hw7, ← hg]; exact new_block w6 _)
      have HGE : Hid (w.heap.size ≤ g ∧ sb ≠ g ∧ fb ≠ g ∧ rb ≠ g) := Lib.hid (by have h1 := HM6.out.st.lt; have h2 := HM6.out.fa.lt; have h3 := HM6.out.re.lt; have h4 := HM6.out.bel.size; omega)
      rw [hw7, hg]
      clear hg hw7 hmk
      obtain ⟨w8, hw8⟩ : ∃ x, w7.drew.setRow g (rowF L ++ ZC.drop (L.length * 8)).toArray = x := ⟨_, rfl⟩
      have hcp : ∀ ty, (Builtin.copy_ #[22, 22] ty #[.slice (some ⟨g, 0, none⟩) (L.length + 1) (L.length + 1), .slice A L.length cap]).run Tryz.prog w7.drew = .ok (goInt L.length) w8 := fun ty => by rw [← hw8]; exact run_copyF w7.drew g A L cap ty ZC HG7.out hZC (HS.out.below (HM7.out.bel.trans (bDrewB w7 _)))
      have HG8 : Hid (w8.heap[g]? = some (.cells (rowF L ++ ZC.drop (L.length * 8)).toArray 26 (0, 0))) := Lib.hid (by rw [← hw8]; exact setRow_heap w7.drew g _ _ _ _ HG7.out)
      have HM8 : Hid (AM w w8 sb fb rb (.slice A L.length cap) f) := Lib.hid (by rw [← hw8]; exact (HM7.out.below (bDrewB w7 _)).row HGE.out _)
      clear hw8
      have S0 : w7.drew.cell? ⟨sb, 0, none⟩ = some (.slice A L.length cap) := (HM7.out.below (bDrewB w7 _)).st.cell 0
      have F0 : w7.drew.cell? ⟨fb, 0, none⟩ = some (.int .u32 f.id) := (HM7.out.below (bDrewB w7 _)).fa.cell 0
      have E0 : w8.cell? ⟨fb, 0, none⟩ = some (.int .u32 f.id) := HM8.out.fa.cell 0
      obtain ⟨zI0, I0⟩ : ∃ z, w8.cell? ⟨g, L.length * 8, none⟩ = some z := row_some (n := 8) HG8.out (by omega)
      have G0 : w8.frozen? ⟨g, L.length * 8, none⟩ = false := frozen_of_row w8 g _ _ _ HG8.out
      have F1 : w7.drew.cell? ⟨fb, 1, none⟩ = some (.int .u32 f.pe) := (HM7.out.below (bDrewB w7 _)).fa.cell 1
      have E1 : w8.cell? ⟨fb, 1, none⟩ = some (.int .u32 f.pe) := HM8.out.fa.cell 1
      obtain ⟨zI1, I1⟩ : ∃ z, w8.cell? ⟨g, L.length * 8 + 1, none⟩ = some z := row_some (n := 8) HG8.out (by omega)
      have G1 : w8.frozen? ⟨g, L.length * 8 + 1, none⟩ = false := frozen_of_row w8 g _ _ _ HG8.out
      have F2 : w7.drew.cell? ⟨fb, 2, none⟩ = some (.int .i64 f.ki) := (HM7.out.below (bDrewB w7 _)).fa.cell 2
      have E2 : w8.cell? ⟨fb, 2, none⟩ = some (.int .i64 f.ki) := HM8.out.fa.cell 2
      obtain ⟨zI2, I2⟩ : ∃ z, w8.cell? ⟨g, L.length * 8 + 2, none⟩ = some z := row_some (n := 8) HG8.out (by omega)
      have G2 : w8.frozen? ⟨g, L.length * 8 + 2, none⟩ = false := frozen_of_row w8 g _ _ _ HG8.out
      have F3 : w7.drew.cell? ⟨fb, 3, none⟩ = some (.int .i64 f.fr) := (HM7.out.below (bDrewB w7 _)).fa.cell 3
      have E3 : w8.cell? ⟨fb, 3, none⟩ = some (.int .i64 f.fr) := HM8.out.fa.cell 3
      obtain ⟨zI3, I3⟩ : ∃ z, w8.cell? ⟨g, L.length * 8 + 3, none⟩ = some z := row_some (n := 8) HG8.out (by omega)
      have G3 : w8.frozen? ⟨g, L.length * 8 + 3, none⟩ = false := frozen_of_row w8 g _ _ _ HG8.out
      have F4 : w7.drew.cell? ⟨fb, 4, none⟩ = some (.int .i64 f.to) := (HM7.out.below (bDrewB w7 _)).fa.cell 4
      have E4 : w8.cell? ⟨fb, 4, none⟩ = some (.int .i64 f.to) := HM8.out.fa.cell 4
      obtain ⟨zI4, I4⟩ : ∃ z, w8.cell? ⟨g, L.length * 8 + 4, none⟩ = some z := row_some (n := 8) HG8.out (by omega)
      have G4 : w8.frozen? ⟨g, L.length * 8 + 4, none⟩ = false := frozen_of_row w8 g _ _ _ HG8.out
      have F5 : w7.drew.cell? ⟨fb, 5, none⟩ = some (.string f.co) := (HM7.out.below (bDrewB w7 _)).fa.cell 5
      have E5 : w8.cell? ⟨fb, 5, none⟩ = some (.string f.co) := HM8.out.fa.cell 5
      obtain ⟨zI5, I5⟩ : ∃ z, w8.cell? ⟨g, L.length * 8 + 5, none⟩ = some z := row_some (n := 8) HG8.out (by omega)
      have G5 : w8.frozen? ⟨g, L.length * 8 + 5, none⟩ = false := frozen_of_row w8 g _ _ _ HG8.out
      have F6 : w7.drew.cell? ⟨fb, 6, none⟩ = some (.int .i64 f.nu) := (HM7.out.below (bDrewB w7 _)).fa.cell 6
      have E6 : w8.cell? ⟨fb, 6, none⟩ = some (.int .i64 f.nu) := HM8.out.fa.cell 6
      obtain ⟨zI6, I6⟩ : ∃ z, w8.cell? ⟨g, L.length * 8 + 6, none⟩ = some z := row_some (n := 8) HG8.out (by omega)
      have G6 : w8.frozen? ⟨g, L.length * 8 + 6, none⟩ = false := frozen_of_row w8 g _ _ _ HG8.out
      have F7 : w7.drew.cell? ⟨fb, 7, none⟩ = some (.string f.tx) := (HM7.out.below (bDrewB w7 _)).fa.cell 7
      have E7 : w8.cell? ⟨fb, 7, none⟩ = some (.string f.tx) := HM8.out.fa.cell 7
      obtain ⟨zI7, I7⟩ : ∃ z, w8.cell? ⟨g, L.length * 8 + 7, none⟩ = some z := row_some (n := 8) HG8.out (by omega)
      have G7 : w8.frozen? ⟨g, L.length * 8 + 7, none⟩ = false := frozen_of_row w8 g _ _ _ HG8.out
      have hx0 : (0 : Int) ≤ (L.length : Int) := by omega
      have hx1 : (L.length : Int) < (L.length : Int) + 1 := by omega
      obtain ⟨w9, hw9⟩ : ∃ x, w8.setCells g (L.length * 8) (encF f) = x := ⟨_, rfl⟩
      have hw9c : ((((((((w8.setCell ⟨g, L.length * 8, none⟩ (.int .u32 f.id)).setCell ⟨g, L.length * 8 + 1, none⟩ (.int .u32 f.pe)).setCell ⟨g, L.length * 8 + 2, none⟩ (.int .i64 f.ki)).setCell ⟨g, L.length * 8 + 3, none⟩ (.int .i64 f.fr)).setCell ⟨g, L.length * 8 + 4, none⟩ (.int .i64 f.to)).setCell ⟨g, L.length * 8 + 5, none⟩ (.string f.co)).setCell ⟨g, L.length * 8 + 6, none⟩ (.int .i64 f.nu)).setCell ⟨g, L.length * 8 + 7, none⟩ (.string f.tx)) = w9 := hw9
      have HM9 : Hid (AM w w9 sb fb rb (.slice A L.length cap) f) := Lib.hid (by rw [← hw9]; exact HM8.out.cells HGE.out _ _)
      have HS9 : Hid (SlF w9 (some ⟨g, 0, none⟩) (L ++ [f])) := Lib.hid (rowAdd L f _ HG8.out (by rw [List.length_drop, hZC]; omega) hw9.symm)
      have R9 : w9.cell? ⟨rb, 0, none⟩ = some (.slice none 0 0) := HM9.out.re.cell 0
      have K9 : w9.frozen? ⟨rb, 0, none⟩ = false := HM9.out.re.frozen 0
      go_region_law (refine step_copyF rfl (.tmp 39) (.tmp 41) _ _ rfl L.length (.slice (some ⟨g, 0, none⟩) (L.length + 1) (L.length + 1)) (.slice A L.length cap) hcp (by simp [Act.eval]) (by simp [Act.eval]) ?_)
      all_goals
        clear hw9c hw9
        go_wp2
        have z0 : (w9.setCell ⟨rb, 0, none⟩ (.slice (some ⟨g, 0, none⟩) (L.length + 1) (L.length + 1))).cell? ⟨rb, 0, none⟩ = some (.slice (some ⟨g, 0, none⟩) (L.length + 1) (L.length + 1)) := (HM9.out.re.set_ 0 _).cell 0
        have hbz : Below w.heap.size w (w9.setCell ⟨rb, 0, none⟩ (.slice (some ⟨g, 0, none⟩) (L.length + 1) (L.length + 1))) := HM9.out.bel.setCell (p := ⟨rb, 0, none⟩) HNE.out.1 _
        have hsz : SlF (w9.setCell ⟨rb, 0, none⟩ (.slice (some ⟨g, 0, none⟩) (L.length + 1) (L.length + 1))) (some ⟨g, 0, none⟩) (L ++ [f]) := HS9.out.put HGE.out.2.2.2 _
        generalize w9.setCell ⟨rb, 0, none⟩ (.slice (some ⟨g, 0, none⟩) (L.length + 1) (L.length + 1)) = wz at *
        exact bodyPost_ret (v := .tuple #[.agg #[.slice (some ⟨g, 0, none⟩) (L.length + 1) (L.length + 1)], .int .i64 0]) (by simp [results, Tryz.results10, go_sem, z0]) rfl ⟨⟨some ⟨g, 0, none⟩, L.length + 1, by rw [LL.out, List.length_append]; rfl, by rw [LL.out, List.length_append]; exact Nat.le_refl _, by rw [LL.out]; exact hsz⟩, hbz⟩
    · have bca : (ca != 0) = true := bne_iff_ne.2 hca
      have LL : Hid (addL L f = (L, ca)) := Lib.hid (by rw [HA3.out, if_pos hca])
      clear hca
      have S0 : w6.cell? ⟨sb, 0, none⟩ = some (.slice A L.length cap) := HM6.out.st.cell 0
      have R0 : w6.cell? ⟨rb, 0, none⟩ = some (.slice none 0 0) := HM6.out.re.cell 0
      have G0 : w6.frozen? ⟨rb, 0, none⟩ = false := HM6.out.re.frozen 0
      go_wp2
      have z0 : (w6.setCell ⟨rb, 0, none⟩ (.slice A L.length cap)).cell? ⟨rb, 0, none⟩ = some (.slice A L.length cap) := (HM6.out.re.set_ 0 _).cell 0
      have hbz : Below w.heap.size w (w6.setCell ⟨rb, 0, none⟩ (.slice A L.length cap)) := HM6.out.bel.setCell (p := ⟨rb, 0, none⟩) HNE.out.1 _
      clear S0 R0 G0
      generalize w6.setCell ⟨rb, 0, none⟩ (.slice A L.length cap) = wz at *
      exact bodyPost_ret (v := .tuple #[.agg #[.slice A L.length cap], .int .i64 (ca)]) (by simp [results, Tryz.results10, go_sem, z0]) rfl ⟨⟨A, cap, by rw [LL.out], by rw [LL.out]; exact HCAP.out, by rw [LL.out]; exact HS.out.below hbz⟩, hbz⟩
  · have bce : (ce != 0) = true := bne_iff_ne.2 hce
    have LL : Hid (addL L f = (L, ce)) := Lib.hid (by rw [HA1.out, if_pos hce])
    clear hce
    have S0 : w4.cell? ⟨sb, 0, none⟩ = some (.slice A L.length cap) := HM4.out.st.cell 0
    have R0 : w4.cell? ⟨rb, 0, none⟩ = some (.slice none 0 0) := HM4.out.re.cell 0
    have G0 : w4.frozen? ⟨rb, 0, none⟩ = false := HM4.out.re.frozen 0
    go_wp2
    have z0 : (w4.setCell ⟨rb, 0, none⟩ (.slice A L.length cap)).cell? ⟨rb, 0, none⟩ = some (.slice A L.length cap) := (HM4.out.re.set_ 0 _).cell 0
    have hbz : Below w.heap.size w (w4.setCell ⟨rb, 0, none⟩ (.slice A L.length cap)) := HM4.out.bel.setCell (p := ⟨rb, 0, none⟩) HNE.out.1 _
    clear S0 R0 G0
    generalize w4.setCell ⟨rb, 0, none⟩ (.slice A L.length cap) = wz at *
    exact bodyPost_ret (v := .tuple #[.agg #[.slice A L.length cap], .int .i64 (ce)]) (by simp [results, Tryz.results10, go_sem, z0]) rfl ⟨⟨A, cap, by rw [LL.out], by rw [LL.out]; exact HCAP.out, by rw [LL.out]; exact HS.out.below hbz⟩, hbz⟩
end Go.Proofs.YtmngghglcgmkeaaGreatDoor

/- Len and At of a store and of a view. -/
namespace Go.Proofs.YtmngghglcgmkeaaGreatDoor
open Go.RowKit Go.Sort

set_option maxHeartbeats 2000000 in
set_option maxRecDepth 10000 in
theorem st_Len (A : Option Addr) (n cap : Nat) (w : World) : Calls Tryz.prog 13 #[.agg #[.slice A n cap]] w fun e w' => e = .returned (.int .i64 n) ∧ Below w.heap.size w w' := by
  go_enter Tryz.func13, Tryz.ntmps13
  go_wp2
  go_ret
  exact ⟨rfl, bAlloc w _⟩
/-- How many facts a view is of. -/
def atN (L : List Fa) (n : Int) : Nat := min n.toNat L.length
set_option maxHeartbeats 2000000 in
set_option maxRecDepth 10000 in
theorem st_At (L : List Fa) (A : Option Addr) (cap : Nat) (n : Int) (w : World) (hn : L.length ≤ 1000000) (hcap : L.length ≤ cap) :
    Calls Tryz.prog 12 #[.agg #[.slice A L.length cap], .int .i64 n] w fun e w' => e = .returned (.agg #[.slice A (atN L n) (atN L n)]) ∧ Below w.heap.size w w' := by
  obtain ⟨k, hk⟩ : ∃ k : Nat, atN L n = k := ⟨_, rfl⟩
  have hmm : max (0 : Int) (min n (L.length : Int)) = (k : Int) := by rw [← hk]; unfold atN; omega
  have hkc : k ≤ cap := by rw [← hk]; unfold atN; omega
  have hkc2 : (k : Int) ≤ (cap : Int) := by omega
  rw [hk]
  go_enter Tryz.func12, Tryz.ntmps12
  go_wp2
  exact bodyPost_ret (v := .agg #[.slice A k k]) (by simp [results, Tryz.results12, go_sem]) rfl ⟨rfl, bTrans (bAlloc w _) (bAlloc _ _)⟩
end Go.Proofs.YtmngghglcgmkeaaGreatDoor

/- Are two facts alike, but for their IDs? -/
namespace Go.Proofs.YtmngghglcgmkeaaGreatDoor
open Go.RowKit Go.Sort

/-- Are two facts alike, but for their IDs? -/
def sameF (f g : Fa) : Bool := decide (f.pe = g.pe ∧ f.ki = g.ki ∧ f.fr = g.fr ∧ f.to = g.to ∧ f.co.toList = g.co.toList ∧ f.nu = g.nu ∧ f.tx.toList = g.tx.toList)
theorem bk2 (w : World) (c d : Array Value) (t : TypeId) {p q : Nat} {w2 : World} (h1 : w.heap.size = p) (h2 : p + 1 = q) (hw : (w.alloc (.cells c t)).alloc (.cells d t) = w2) : Bk p t c w2 ∧ Bk q t d w2 ∧ Below w.heap.size w w2 := by
  subst hw; subst h2; subst h1
  have b1 : Bk w.heap.size t c (w.alloc (.cells c t)) := Bk.new _ _ _
  have b2 : Bk (w.heap.size + 1) t d ((w.alloc (.cells c t)).alloc (.cells d t)) := by
    have := Bk.new (w.alloc (.cells c t)) t d
    rwa [show (w.alloc (.cells c t)).heap.size = w.heap.size + 1 by simp] at this
  exact ⟨b1.grows (.of_alloc _ _), b2, bTrans (bAlloc w _) (bAlloc _ _)⟩
set_option maxHeartbeats 2000000 in
set_option maxRecDepth 10000 in
theorem fc_Same (f g : Fa) (w : World) : Calls Tryz.prog 48 #[.agg (FA f), .agg (FA g)] w fun e w' => e = .returned (.bool (sameF f g)) ∧ Below w.heap.size w w' := by
  obtain ⟨p, hp⟩ : ∃ x, w.heap.size = x := ⟨_, rfl⟩
  obtain ⟨q, hq⟩ : ∃ x, p + 1 = x := ⟨_, rfl⟩
  obtain ⟨w2, hw2⟩ : ∃ x, (w.alloc (.cells (FA f) 26)).alloc (.cells (FA g) 26) = x := ⟨_, rfl⟩
  have HM := Lib.hid (bk2 w _ _ _ hp hq hw2)
  have HNE : Hid (w.heap.size ≤ q ∧ p ≠ q) := Lib.hid (by omega)
  have HV : Hid (sameF f g = decide (f.pe = g.pe ∧ f.ki = g.ki ∧ f.fr = g.fr ∧ f.to = g.to ∧ f.co.toList = g.co.toList ∧ f.nu = g.nu ∧ f.tx.toList = g.tx.toList)) := Lib.hid rfl
  unfold FA at hw2 ⊢
  go_enter Tryz.func48, Tryz.ntmps48
  go_upto_region 1 with fail
  clear hp hq hw2
  obtain ⟨w3, hw3⟩ : ∃ x, w2.setCell ⟨q, 0, none⟩ (.int .u32 f.id) = x := ⟨_, rfl⟩
  have HB3 : Hid (Below w.heap.size w w3) := Lib.hid (by rw [← hw3]; exact HM.out.2.2.setCell (p := ⟨q, 0, none⟩) HNE.out.1 _)
  have HF3 : Hid (Bk p 26 (FA f) w3) := Lib.hid (by rw [← hw3]; exact (heap_setCell_other w2 ⟨q, 0, none⟩ p _ HNE.out.2).trans HM.out.1)
  have HG3 : Hid (Bk q 26 ((FA g).setIfInBounds 0 (.int .u32 f.id)) w3) := Lib.hid (by rw [← hw3]; exact HM.out.2.1.set_ 0 _)
  have A0 : w2.cell? ⟨p, 0, none⟩ = some (.int .u32 f.id) := HM.out.1.cell 0
  have B0 : w2.cell? ⟨q, 0, none⟩ = some (.int .u32 g.id) := HM.out.2.1.cell 0
  have D0 : w2.frozen? ⟨q, 0, none⟩ = false := HM.out.2.1.frozen 0
  have P0 : w3.cell? ⟨p, 0, none⟩ = some (.int .u32 f.id) := HF3.out.cell 0
  have Q0 : w3.cell? ⟨q, 0, none⟩ = some (.int .u32 f.id) := HG3.out.cell 0
  have P1 : w3.cell? ⟨p, 1, none⟩ = some (.int .u32 f.pe) := HF3.out.cell 1
  have Q1 : w3.cell? ⟨q, 1, none⟩ = some (.int .u32 g.pe) := HG3.out.cell 1
  have P2 : w3.cell? ⟨p, 2, none⟩ = some (.int .i64 f.ki) := HF3.out.cell 2
  have Q2 : w3.cell? ⟨q, 2, none⟩ = some (.int .i64 g.ki) := HG3.out.cell 2
  have P3 : w3.cell? ⟨p, 3, none⟩ = some (.int .i64 f.fr) := HF3.out.cell 3
  have Q3 : w3.cell? ⟨q, 3, none⟩ = some (.int .i64 g.fr) := HG3.out.cell 3
  have P4 : w3.cell? ⟨p, 4, none⟩ = some (.int .i64 f.to) := HF3.out.cell 4
  have Q4 : w3.cell? ⟨q, 4, none⟩ = some (.int .i64 g.to) := HG3.out.cell 4
  have P5 : w3.cell? ⟨p, 5, none⟩ = some (.string f.co) := HF3.out.cell 5
  have Q5 : w3.cell? ⟨q, 5, none⟩ = some (.string g.co) := HG3.out.cell 5
  have P6 : w3.cell? ⟨p, 6, none⟩ = some (.int .i64 f.nu) := HF3.out.cell 6
  have Q6 : w3.cell? ⟨q, 6, none⟩ = some (.int .i64 g.nu) := HG3.out.cell 6
  have P7 : w3.cell? ⟨p, 7, none⟩ = some (.string f.tx) := HF3.out.cell 7
  have Q7 : w3.cell? ⟨q, 7, none⟩ = some (.string g.tx) := HG3.out.cell 7
  go_wp2
  all_goals
    clear P0 P1 P2 P3 P4 P5 P6 P7 Q0 Q1 Q2 Q3 Q4 Q5 Q6 Q7 A0 B0 D0 hw3
    go_ret
    refine ⟨ret_b ?_, HB3.out⟩
    rw [HV.out]
    simp [*]
end Go.Proofs.YtmngghglcgmkeaaGreatDoor
