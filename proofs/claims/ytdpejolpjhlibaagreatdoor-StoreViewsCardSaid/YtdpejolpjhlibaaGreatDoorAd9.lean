import Derived.Test.YtdpejolpjhlibaaGreatDoorAp9
/- The document's store with a fact more. -/
namespace Go.Proofs.YtdpejolpjhlibaaGreatDoor
open Go.RowKit Go.Sort

/-- What the document's Add answers. -/
def addR9 (L : List Fa) (f : Fa) (e : Ending) (w' : World) : Prop := ∃ A cap, e = .returned (.tuple #[.slice A (addL L f).1.length cap, .int .i64 (addL L f).2]) ∧ (addL L f).1.length ≤ cap ∧ SlF w' A (addL L f).1
theorem addR9_same {L : List Fa} {f : Fa} {A : Option Addr} {cap : Nat} {w' : World} {c : Int} (LL : addL L f = (L, c)) (hc : L.length ≤ cap) (hs : SlF w' A L) : addR9 L f (.returned (.tuple #[.slice A L.length cap, .int .i64 c])) w' :=
  ⟨A, cap, by rw [LL], by rw [LL]; exact hc, by rw [LL]; exact hs⟩

theorem step_first {ops : Array Oper} {o : Oper} {a : Act} {K : Act → World → Prop} {Q : Exit → Act → World → Prop} {E : Prop} (hgd : o.guard = none) (s x : Operand)
    (hop : o.op = .call { callee := .builtin .append, args := #[s, x], argTypes := #[27, 27] })
    {w3 W : World} {h : Nat} {L : List Fa} {A : Option Addr} {cap : Nat} (hv : a.eval s = .slice (some ⟨h, 0, none⟩) 0 0) (hx : a.eval x = .slice A L.length cap) (hn : L.length ≤ 4096)
    (hW : Below w3.heap.size w3 W) (hE : Bk h 37 #[] W) (hb : w3.heap.size ≤ h) (hs : SlF w3 A L)
    (hK : ∀ v' W', OwnR w3.heap.size v' L W' → Below w3.heap.size w3 W' → (∀ b t cs, b ≠ h → Bk b t cs W → Bk b t cs W') → K (a.put o.dst v') W') :
    if Region.wanted o (yielded ops a.tmps) = true then Oper.wp Tryz.prog o a W K Q else E :=
  step_app_many hgd s x hop hv hx rfl (OwnR.empty hE hb) (hs.below hW) (by simp; omega) hW.size fun v' W' h1 h2 => hK v' W' h1 (belowR hW hW.size (OwnR.empty hE hb) h2) (fun b t cs hne hB => hB.grownBy h2 (by simpa [Value.ownBlock] using hne))
theorem step_second {ops : Array Oper} {o : Oper} {a : Act} {K : Act → World → Prop} {Q : Exit → Act → World → Prop} {E : Prop} (hgd : o.guard = none) (s x : Operand)
    (hop : o.op = .call { callee := .builtin .append, args := #[s, x], argTypes := #[27, 27] })
    {w3 W : World} {v : Value} {b : Nat} {L : List Fa} {f : Fa} (hv : a.eval s = v) (hx : a.eval x = .slice (some ⟨b, 0, none⟩) 1 1) (hn : L.length ≤ 4096)
    (hW : Below w3.heap.size w3 W) (ho : OwnR w3.heap.size v L W) (hF : Bk b 37 (FA f) W)
    (hK : ∀ v' W', OwnR w3.heap.size v' (L ++ [f]) W' → Below w3.heap.size w3 W' → K (a.put o.dst v') W') :
    if Region.wanted o (yielded ops a.tmps) = true then Oper.wp Tryz.prog o a W K Q else E :=
  step_app_many hgd s x hop (m := [f]) hv hx rfl ho (slOne hF) (by simp; omega) hW.size fun v' W' h1 h2 => hK v' W' h1 (belowR hW hW.size ho h2)
theorem bkNew1 (W : World) (o : Obj) (t : TypeId) (cs : Array Value) : Bk (W.heap.size + 1) t cs ((W.alloc o).alloc (.cells cs t)) := by
  have h := Bk.new (W.alloc o) t cs
  simpa using h

set_option maxHeartbeats 4000000 in
set_option maxRecDepth 100000 in
theorem r9_Add (L : List Fa) (A : Option Addr) (cap : Nat) (f : Fa) (w : World) (hn : L.length ≤ 4096) (hcap : L.length ≤ cap) (hs : SlF w A L) (hf : Fit f) :
    Calls Tryz.prog 14 #[.slice A L.length cap, .agg (FA f)] w fun e w' => addR9 L f e w' ∧ Below w.heap.size w w' := by
  obtain ⟨fb, hfb⟩ : ∃ x, w.heap.size = x := ⟨_, rfl⟩
  obtain ⟨w3, hw3⟩ : ∃ x, w.alloc (.cells (FA f) 37) = x := ⟨_, rfl⟩
  have HB3 : Hid (Below w.heap.size w w3) := Lib.hid (by rw [← hw3]; exact bAlloc _ _)
  have HF3 : Hid (Bk fb 37 (FA f) w3) := Lib.hid (by rw [← hw3, ← hfb]; exact Bk.new _ _ _)
  have HS : Hid (SlF w3 A L) := Lib.hid (hs.below HB3.out)
  have HCAP := Lib.hid hcap
  have HCK := Lib.hid (fun W => r8_Check f W hf)
  have HAD : Hid (addL L f = if 4096 ≤ L.length then (L, 5) else if chkF f ≠ 0 then (L, chkF f) else if 0 ≤ placeI L f.id then (L, 7) else if canE L f ≠ 0 then (L, canE L f) else (L ++ [f], 0)) := Lib.hid rfl
  have HKP : Hid (∀ W, Below w3.heap.size w3 W → W.cell? ⟨fb, 0, none⟩ = some (.int .u32 f.id) ∧ W.cell? ⟨fb, 1, none⟩ = some (.int .u32 f.pe) ∧ W.cell? ⟨fb, 2, none⟩ = some (.int .i64 f.ki) ∧ W.cell? ⟨fb, 3, none⟩ = some (.int .i64 f.fr) ∧ W.cell? ⟨fb, 4, none⟩ = some (.int .i64 f.to) ∧ W.cell? ⟨fb, 5, none⟩ = some (.string f.co) ∧ W.cell? ⟨fb, 6, none⟩ = some (.int .i64 f.nu) ∧ W.cell? ⟨fb, 7, none⟩ = some (.string f.tx)) := Lib.hid fun W hW => by
    have h : Bk fb 37 (FA f) W := (hW.block fb HF3.out.lt).trans HF3.out
    exact ⟨h.cell 0, h.cell 1, h.cell 2, h.cell 3, h.cell 4, h.cell 5, h.cell 6, h.cell 7⟩
  clear hs hf hcap
  unfold FA at hw3 ⊢
  unfold FA at HCK
  go_enter Tryz.func14, Tryz.ntmps14
  by_cases hbig : (4096 : Int) ≤ (L.length : Int)
  · have LL : Hid (addL L f = (L, 5)) := Lib.hid (by rw [HAD.out, if_pos (by omega)])
    go_wp2
    go_ret2
    exact ⟨addR9_same LL.out HCAP.out HS.out, HB3.out⟩
  have HA1 : Hid (addL L f = if chkF f ≠ 0 then (L, chkF f) else if 0 ≤ placeI L f.id then (L, 7) else if canE L f ≠ 0 then (L, canE L f) else (L ++ [f], 0)) := Lib.hid (by rw [HAD.out, if_neg (by omega)])
  go_upto_region 3 with fail
  clear hfb hw3
  obtain ⟨F0, F1, F2, F3, F4, F5, F6, F7⟩ := HKP.out w3 (Below.refl _ _)
  go_wp2_with fail
  refine (HCK.out _).mono ?_
  rintro e w4 ⟨rfl, hb4⟩
  have HB4 := Lib.hid hb4
  clear F0 F1 F2 F3 F4 F5 F6 F7 hb4
  have HFC : Hid (chkF f = 0 → f.ki = 18 → 1 ≤ f.nu ∧ f.nu ≤ 4096) := Lib.hid chk_cancel
  generalize chkF f = ce at *
  by_cases hce : ce = 0
  rotate_left
  · have bce : (ce != 0) = true := bne_iff_ne.2 hce
    have LL : Hid (addL L f = (L, ce)) := Lib.hid (by rw [HA1.out, if_pos hce])
    clear hce
    go_wp2
    go_ret2
    exact ⟨addR9_same LL.out HCAP.out (HS.out.below HB4.out), bTrans HB3.out HB4.out⟩
  have bce : (ce != 0) = false := by rw [hce]; rfl
  have HCE := Lib.hid hce
  have HA2 : Hid (addL L f = if 0 ≤ placeI L f.id then (L, 7) else if canE L f ≠ 0 then (L, canE L f) else (L ++ [f], 0)) := Lib.hid (by rw [HA1.out, if_neg (fun h => h hce)])
  clear hce
  have HPL := Lib.hid (r9_there L A cap f.id w4 (by omega) (HS.out.below HB4.out))
  go_upto_region 6 with fail
  obtain ⟨F0, -⟩ := HKP.out w4 HB4.out
  go_wp2_with fail
  refine HPL.out.mono ?_
  rintro e w5 ⟨rfl, hb5⟩
  have HB5 := Lib.hid (bTrans HB4.out hb5)
  clear F0 hb5 HPL
  generalize placeI L f.id = pl at *
  by_cases hpl : 0 ≤ pl
  · have LL : Hid (addL L f = (L, 7)) := Lib.hid (by rw [HA2.out, if_pos hpl])
    go_wp2
    go_ret2
    exact ⟨addR9_same LL.out HCAP.out (HS.out.below HB5.out), bTrans HB3.out HB5.out⟩
  have HA3 : Hid (addL L f = if canE L f ≠ 0 then (L, canE L f) else (L ++ [f], 0)) := Lib.hid (by rw [HA2.out, if_neg hpl])
  clear HA1 HA2
  obtain ⟨F0, F1, F2, F3, F4, F5, F6, F7⟩ := HKP.out w5 HB5.out
  by_cases h18 : f.ki = 18
  · have b18 : (f.ki == 18) = true := beq_iff_eq.2 h18
    have HN := Lib.hid (HFC.out HCE.out h18)
    have HL : Hid (canE L f = if (L.length : Int) < f.nu then 6 else match L[(f.nu - 1).toNat]? with | some g => if g.ki = 18 then 11 else if takenB L f.nu = true then 18 else 0 | none => 0) := Lib.hid (by unfold canE; rw [if_neg (fun h => h h18)]; rfl)
    clear h18
    by_cases hlt : (L.length : Int) < f.nu
    · have LL : Hid (addL L f = (L, 6)) := Lib.hid (by rw [HA3.out, HL.out, if_pos hlt, if_pos (by decide)])
      go_wp2
      go_ret2
      exact ⟨addR9_same LL.out HCAP.out (HS.out.below HB5.out), bTrans HB3.out HB5.out⟩
    obtain ⟨hn1, hn2⟩ := HN.out
    obtain ⟨m, hm⟩ : ∃ m : Nat, f.nu = (m : Int) + 1 := ⟨(f.nu - 1).toNat, by omega⟩
    obtain ⟨g, hx⟩ : ∃ x, L[m]? = some x := ⟨_, List.getElem?_eq_getElem (by omega)⟩
    have HL2 : Hid (canE L f = if g.ki = 18 then 11 else if takenB L f.nu = true then 18 else 0) := Lib.hid (by rw [HL.out, if_neg hlt, show (f.nu - 1).toNat = m by omega, hx])
    obtain ⟨b, off, rfl, hbl, hat⟩ := HS.out.open_ (by intro h; simp [h] at hx)
    have hat1 := (hat m g hx).below HB5.out
    have C2 := hat1.c2
    rw [hm] at F6 hlt
    have hlm : (m : Int) < L.length := by omega
    have hsub : ((m : Int) + 1 - 1) = (m : Int) := by omega
    have HTB : Hid (∀ W, Below w3.heap.size w3 W → Calls Tryz.prog 34 #[.slice (some ⟨b, off, none⟩) L.length cap, .int .i64 (m : Int)] W fun e w' => e = .returned (.bool (takenB L f.nu)) ∧ Below W.heap.size W w') := Lib.hid fun W hW => by
      rw [hm]
      exact r9_Back L _ cap (m : Int) W (by omega) (by omega) (HS.out.below hW)
    clear hat hat1 hx HL hbl
    by_cases hg : g.ki = 18
    · have bg : (g.ki == 18) = true := beq_iff_eq.2 hg
      have LL : Hid (addL L f = (L, 11)) := Lib.hid (by rw [HA3.out, HL2.out, if_pos hg, if_pos (by decide)])
      clear hg
      go_wp2
      go_ret2
      exact ⟨addR9_same LL.out HCAP.out (HS.out.below HB5.out), bTrans HB3.out HB5.out⟩
    have bg : (g.ki == 18) = false := beq_eq_false_iff_ne.2 hg
    have HL3 : Hid (canE L f = if takenB L f.nu = true then 18 else 0) := Lib.hid (by rw [HL2.out, if_neg hg])
    clear hg
    go_upto_region 13 with fail
    clear C2 F0 F1 F2 F3 F4 F5 F7
    go_wp2_with fail
    refine (HTB.out w5 HB5.out).mono ?_
    rintro e w6 ⟨rfl, hb6⟩
    have HB6 := Lib.hid (bTrans HB5.out hb6)
    clear F6 hb6 HTB
    obtain ⟨tb, htb⟩ : ∃ x, takenB L f.nu = x := ⟨_, rfl⟩
    have HL4 : Hid (canE L f = if tb = true then 18 else 0) := Lib.hid (by rw [HL3.out, htb])
    rw [htb]
    clear htb
    cases tb with
    | true =>
      have LL : Hid (addL L f = (L, 18)) := Lib.hid (by rw [HA3.out, HL4.out, if_pos rfl, if_pos (by decide)])
      go_wp2
      go_ret2
      exact ⟨addR9_same LL.out HCAP.out (HS.out.below HB6.out), bTrans HB3.out HB6.out⟩
    | false =>
      have LL : Hid (addL L f = (L ++ [f], 0)) := Lib.hid (by rw [HA3.out, HL4.out, if_neg (by decide)])
      go_upto_region 15 with fail
      generalize (some ⟨b, off, none⟩ : Option Addr) = A at *
      clear hlt hlm hsub hn1 hn2 HL2 HL3 HL4 HN hm
      have HX : Hid (Below w3.heap.size w3 w6.drew) := Lib.hid (bTrans HB6.out (bDrew _))
      have HSZ : Hid (w3.heap.size ≤ w6.heap.size) := Lib.hid HB6.out.size
      have HL : Hid (L.length ≤ 4096) := Lib.hid (by omega)
      obtain ⟨F0, F1, F2, F3, F4, F5, F6, F7⟩ := HKP.out w6 HB6.out
      go_wp2_with fail
      go_region_held3 (fun W => W.cell? ⟨fb, 0, none⟩ = some (.int .u32 f.id) ∧ W.cell? ⟨fb, 1, none⟩ = some (.int .u32 f.pe) ∧ W.cell? ⟨fb, 2, none⟩ = some (.int .i64 f.ki) ∧ W.cell? ⟨fb, 3, none⟩ = some (.int .i64 f.fr) ∧ W.cell? ⟨fb, 4, none⟩ = some (.int .i64 f.to) ∧ W.cell? ⟨fb, 5, none⟩ = some (.string f.co) ∧ W.cell? ⟨fb, 6, none⟩ = some (.int .i64 f.nu) ∧ W.cell? ⟨fb, 7, none⟩ = some (.string f.tx)) (first | exact HKP.out _ HX7.out | exact HKP.out _ HX8.out | go_keep) (first
        | (refine step_first rfl (.tmp 47) (.tmp 48) rfl (h := w6.heap.size) (A := A) (cap := cap) (L := L) (w3 := w3) (W := w6.drew.alloc _) (by simp [Act.eval]) (by simp [Act.eval]) HL.out (bTrans HX.out (bAlloc _ _)) (Bk.new w6.drew _ _) HSZ.out HS.out ?_; intro v7 w7 ho7 hx7 hk7; have HO7 := Lib.hid ho7; have HX7 := Lib.hid hx7; clear ho7 hx7 hk7)
        | (refine step_first rfl (.tmp 47) (.tmp 48) rfl (h := w6.heap.size) (A := A) (cap := cap) (L := L) (w3 := w3) (W := (w6.drew.alloc _).alloc _) (by simp [Act.eval]) (by simp [Act.eval]) HL.out (bTrans (bTrans HX.out (bAlloc _ _)) (bAlloc _ _)) ((Bk.new w6.drew _ _).grows (.of_alloc _ _)) HSZ.out HS.out ?_; intro v7 w7 ho7 hx7 hk7; have HO7 := Lib.hid ho7; have HX7 := Lib.hid hx7; have HF7 : Hid (Bk (w6.heap.size + 1) 37 (FA f) w7) := Lib.hid (hk7 _ _ _ (by omega) (bkNew1 w6.drew _ _ _)); clear ho7 hx7 hk7)
        | (refine step_first rfl (.tmp 47) (.tmp 48) rfl (h := w6.heap.size + 1) (A := A) (cap := cap) (L := L) (w3 := w3) (W := (w6.drew.alloc _).alloc _) (by simp [Act.eval]) (by simp [Act.eval]) HL.out (bTrans (bTrans HX.out (bAlloc _ _)) (bAlloc _ _)) (bkNew1 w6.drew _ _ _) (Nat.le_succ_of_le HSZ.out) HS.out ?_; intro v7 w7 ho7 hx7 hk7; have HO7 := Lib.hid ho7; have HX7 := Lib.hid hx7; have HF7 : Hid (Bk w6.heap.size 37 (FA f) w7) := Lib.hid (hk7 _ _ _ (by omega) ((Bk.new w6.drew _ _).grows (.of_alloc _ _))); clear ho7 hx7 hk7)
        | (refine step_second rfl (.tmp 49) (.tmp 51) rfl (v := v7) (L := L) (f := f) (w3 := w3) (W := w7) (by simp [Act.eval]) (by simp [Act.eval]) HL.out HX7.out HO7.out HF7.out ?_; intro v8 w8 ho8 hx8; have HO8 := Lib.hid ho8; have HX8 := Lib.hid hx8; clear ho8 hx8)
        | (refine step_second rfl (.tmp 49) (.tmp 51) rfl (v := v7) (b := w7.heap.size) (L := L) (f := f) (w3 := w3) (W := w7.alloc _) (by simp [Act.eval]) (by simp [Act.eval]) HL.out (bTrans HX7.out (bAlloc _ _)) (HO7.out.alloc _) (Bk.new w7 _ _) ?_; intro v8 w8 ho8 hx8; have HO8 := Lib.hid ho8; have HX8 := Lib.hid hx8; clear ho8 hx8))
      all_goals
        obtain ⟨A8, c8, rfl, hc8, hs8⟩ := HO8.out.sl
        go_wp2
        go_ret2
        exact ⟨⟨A8, c8, by rw [LL.out]; rfl, by rw [LL.out]; exact hc8, by rw [LL.out]; exact hs8⟩, bTrans HB3.out HX8.out⟩
  · have b18 : (f.ki == 18) = false := beq_eq_false_iff_ne.2 h18
    have LL : Hid (addL L f = (L ++ [f], 0)) := Lib.hid (by rw [HA3.out, if_neg (fun h => h (if_pos h18))])
    clear h18
    obtain ⟨w6, rfl⟩ : ∃ x, x = w5 := ⟨_, rfl⟩
    have HB6 := Lib.hid HB5.out
    go_upto_region 15 with fail
    have HX : Hid (Below w3.heap.size w3 w6.drew) := Lib.hid (bTrans HB6.out (bDrew _))
    have HSZ : Hid (w3.heap.size ≤ w6.heap.size) := Lib.hid HB6.out.size
    have HL : Hid (L.length ≤ 4096) := Lib.hid (by omega)
    obtain ⟨F0, F1, F2, F3, F4, F5, F6, F7⟩ := HKP.out w6 HB6.out
    go_wp2_with fail
    go_region_held3 (fun W => W.cell? ⟨fb, 0, none⟩ = some (.int .u32 f.id) ∧ W.cell? ⟨fb, 1, none⟩ = some (.int .u32 f.pe) ∧ W.cell? ⟨fb, 2, none⟩ = some (.int .i64 f.ki) ∧ W.cell? ⟨fb, 3, none⟩ = some (.int .i64 f.fr) ∧ W.cell? ⟨fb, 4, none⟩ = some (.int .i64 f.to) ∧ W.cell? ⟨fb, 5, none⟩ = some (.string f.co) ∧ W.cell? ⟨fb, 6, none⟩ = some (.int .i64 f.nu) ∧ W.cell? ⟨fb, 7, none⟩ = some (.string f.tx)) (first | exact HKP.out _ HX7.out | exact HKP.out _ HX8.out | go_keep) (first
      | (refine step_first rfl (.tmp 47) (.tmp 48) rfl (h := w6.heap.size) (A := A) (cap := cap) (L := L) (w3 := w3) (W := w6.drew.alloc _) (by simp [Act.eval]) (by simp [Act.eval]) HL.out (bTrans HX.out (bAlloc _ _)) (Bk.new w6.drew _ _) HSZ.out HS.out ?_; intro v7 w7 ho7 hx7 hk7; have HO7 := Lib.hid ho7; have HX7 := Lib.hid hx7; clear ho7 hx7 hk7)
      | (refine step_first rfl (.tmp 47) (.tmp 48) rfl (h := w6.heap.size) (A := A) (cap := cap) (L := L) (w3 := w3) (W := (w6.drew.alloc _).alloc _) (by simp [Act.eval]) (by simp [Act.eval]) HL.out (bTrans (bTrans HX.out (bAlloc _ _)) (bAlloc _ _)) ((Bk.new w6.drew _ _).grows (.of_alloc _ _)) HSZ.out HS.out ?_; intro v7 w7 ho7 hx7 hk7; have HO7 := Lib.hid ho7; have HX7 := Lib.hid hx7; have HF7 : Hid (Bk (w6.heap.size + 1) 37 (FA f) w7) := Lib.hid (hk7 _ _ _ (by omega) (bkNew1 w6.drew _ _ _)); clear ho7 hx7 hk7)
      | (refine step_first rfl (.tmp 47) (.tmp 48) rfl (h := w6.heap.size + 1) (A := A) (cap := cap) (L := L) (w3 := w3) (W := (w6.drew.alloc _).alloc _) (by simp [Act.eval]) (by simp [Act.eval]) HL.out (bTrans (bTrans HX.out (bAlloc _ _)) (bAlloc _ _)) (bkNew1 w6.drew _ _ _) (Nat.le_succ_of_le HSZ.out) HS.out ?_; intro v7 w7 ho7 hx7 hk7; have HO7 := Lib.hid ho7; have HX7 := Lib.hid hx7; have HF7 : Hid (Bk w6.heap.size 37 (FA f) w7) := Lib.hid (hk7 _ _ _ (by omega) ((Bk.new w6.drew _ _).grows (.of_alloc _ _))); clear ho7 hx7 hk7)
      | (refine step_second rfl (.tmp 49) (.tmp 51) rfl (v := v7) (L := L) (f := f) (w3 := w3) (W := w7) (by simp [Act.eval]) (by simp [Act.eval]) HL.out HX7.out HO7.out HF7.out ?_; intro v8 w8 ho8 hx8; have HO8 := Lib.hid ho8; have HX8 := Lib.hid hx8; clear ho8 hx8)
      | (refine step_second rfl (.tmp 49) (.tmp 51) rfl (v := v7) (b := w7.heap.size) (L := L) (f := f) (w3 := w3) (W := w7.alloc _) (by simp [Act.eval]) (by simp [Act.eval]) HL.out (bTrans HX7.out (bAlloc _ _)) (HO7.out.alloc _) (Bk.new w7 _ _) ?_; intro v8 w8 ho8 hx8; have HO8 := Lib.hid ho8; have HX8 := Lib.hid hx8; clear ho8 hx8))
    all_goals
      obtain ⟨A8, c8, rfl, hc8, hs8⟩ := HO8.out.sl
      go_wp2
      go_ret2
      exact ⟨⟨A8, c8, by rw [LL.out]; rfl, by rw [LL.out]; exact hc8, by rw [LL.out]; exact hs8⟩, bTrans HB3.out HX8.out⟩
end Go.Proofs.YtdpejolpjhlibaaGreatDoor
