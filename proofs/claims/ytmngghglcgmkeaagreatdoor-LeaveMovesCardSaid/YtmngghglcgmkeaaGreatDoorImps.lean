/- Merged from: St7 St8. -/
import Derived.Test.YtmngghglcgmkeaaGreatDoorAdds
import Derived.BigQuiet
import Derived.Deep.RegionWith
import Derived.Deep.QuietTactic
import Derived.Laws.OwnMore
/- The store with facts more. -/
namespace Go.Proofs.YtmngghglcgmkeaaGreatDoor
open Go.RowKit Go.Sort

/-- Is a fact there already? -/
def hitB (O : List Fa) (f : Fa) : Bool := decide (0 ≤ placeI O f.id) && (match O[(placeI O f.id).toNat]? with | some g => sameF g f | none => false)
/-- The store with facts more, how many were passed over, what is wrong. -/
def impL (L0 : List Fa) : List Fa → Nat → List Fa → List Fa × Nat × Int
  | O, p, [] => (O, p, 0)
  | O, p, f :: l => if hitB O f = true then impL L0 O (p + 1) l else if (addL O f).2 ≠ 0 then (L0, 0, (addL O f).2) else impL L0 (addL O f).1 p l
theorem impL_hit (L O : List Fa) (p : Nat) (f : Fa) (l : List Fa) (h : hitB O f = true) : impL L O p (f :: l) = impL L O (p + 1) l := by
  rw [impL]; exact if_pos h
theorem impL_add (L O : List Fa) (p : Nat) (f : Fa) (l : List Fa) (h : hitB O f = false) {N : List Fa} {en : Int} (hN : addL O f = (N, en)) : impL L O p (f :: l) = if en ≠ 0 then (L, 0, en) else impL L N p l := by
  rw [impL, if_neg (by rw [h]; simp), hN]
theorem idxI_range {id : Int} : ∀ (L : List Fa) (j : Nat), idxI id j L = -1 ∨ ∃ i : Nat, idxI id j L = ((j + i : Nat) : Int) ∧ i < L.length
  | [], _ => .inl rfl
  | f :: L, j => by
    unfold idxI
    by_cases h : f.id = id
    · rw [if_pos h]; exact .inr ⟨0, rfl, by simp⟩
    · rw [if_neg h]
      rcases idxI_range L (j + 1) with h1 | ⟨i, h1, h2⟩
      · exact .inl h1
      · exact .inr ⟨i + 1, by rw [h1]; congr 1; omega, by simp; omega⟩
theorem placeI_range (L : List Fa) (id : Int) : placeI L id = -1 ∨ ∃ i : Nat, placeI L id = (i : Int) ∧ i < L.length := by
  unfold placeI
  by_cases h : id = 0
  · rw [if_pos h]; exact .inl rfl
  · rw [if_neg h]
    rcases idxI_range (id := id) L 0 with h1 | ⟨i, h1, h2⟩
    · exact .inl h1
    · exact .inr ⟨i, by rw [h1]; congr 1; omega, h2⟩
theorem addL_len (L : List Fa) (f : Fa) (h : L.length ≤ 4096) : (addL L f).1.length ≤ 4096 := by
  unfold addL
  split
  · exact h
  · split
    · exact h
    · split
      · exact h
      · split
        · exact h
        · simp; omega
theorem drop_at {l : List Fa} {k : Nat} {f : Fa} (h : l[k]? = some f) : l.drop k = f :: l.drop (k + 1) := by
  obtain ⟨hk, e⟩ := List.getElem?_eq_some_iff.1 h
  rw [← e]; exact List.drop_eq_getElem_cons hk
/-- A store to a block of another type keeps facts. -/
theorem SlF.keepRe {w : World} {A : Option Addr} {L : List Fa} {r : Nat} {T : Value} {t : TypeId} (h : SlF w A L) (hr : Bk r t #[T] w) (v : Value) : SlF (w.setCell ⟨r, 0, none⟩ v) A L := fun hl => by
  obtain ⟨b, off, e, hlt, hc⟩ := h hl
  have hbr : b ≠ r := by
    intro hbr
    subst hbr
    obtain ⟨f, hf⟩ : ∃ f, L[0]? = some f := ⟨_, List.getElem?_eq_getElem (List.length_pos_iff.2 hl)⟩
    have h1 := hc 0 f hf 1 _ rfl
    rw [hr.cell] at h1
    simp at h1
  exact ⟨b, off, e, by simpa using hlt, fun i x hx j u hu => (World.cell?_setCells_out r [v] 0 w _ (fun hb _ => absurd hb hbr)).trans (hc i x hx j u hu)⟩
def impR (L l : List Fa) (e : Ending) (w' : World) : Prop := ∃ A cap, e = .returned (.tuple #[.agg #[.slice A (impL L L 0 l).1.length cap], .int .i64 ((impL L L 0 l).2.1 : Nat), .int .i64 (impL L L 0 l).2.2]) ∧ (impL L L 0 l).1.length ≤ cap ∧ SlF w' A (impL L L 0 l).1
/-- What lies in memory at an Import. -/
structure IM (w W : World) (sb rb ob : Nat) (S T : Value) : Prop where
  st : Bk sb 33 #[S] W
  re : Bk rb 33 #[.slice none 0 0] W
  ou : Bk ob 33 #[T] W
  bel : Below w.heap.size w W
theorem IM.below {w W W' : World} {sb rb ob : Nat} {S T : Value} (h : IM w W sb rb ob S T) (hb : Below W.heap.size W W') : IM w W' sb rb ob S T :=
  ⟨(hb.block sb h.st.lt).trans h.st, (hb.block rb h.re.lt).trans h.re, (hb.block ob h.ou.lt).trans h.ou, bTrans h.bel hb⟩
theorem IM.put {w W : World} {sb rb ob : Nat} {S T : Value} (h : IM w W sb rb ob S T) (hne : w.heap.size ≤ rb ∧ w.heap.size ≤ ob ∧ sb ≠ rb ∧ sb ≠ ob ∧ rb ≠ ob) (T' : Value) : IM w (W.setCell ⟨ob, 0, none⟩ T') sb rb ob S T' :=
  ⟨(heap_setCell_other W ⟨ob, 0, none⟩ sb _ hne.2.2.2.1).trans h.st, (heap_setCell_other W ⟨ob, 0, none⟩ rb _ hne.2.2.2.2).trans h.re, h.ou.set_ 0 _, h.bel.setCell (p := ⟨ob, 0, none⟩) hne.2.1 _⟩
theorem IM.start (w : World) (S : Value) {sb rb ob : Nat} {w3 : World} (h1 : w.heap.size = sb) (h2 : sb + 1 = rb) (h3 : rb + 1 = ob) (hw : ((w.alloc (.cells #[S] 33)).alloc (.cells #[.slice none 0 0] 33)).alloc (.cells #[S] 33) = w3) : IM w w3 sb rb ob S S := by
  subst hw; subst h3; subst h2; subst h1
  have s1 : (w.alloc (.cells #[S] 33)).heap.size = w.heap.size + 1 := by simp
  have s2 : ((w.alloc (.cells #[S] 33)).alloc (.cells #[.slice none 0 0] 33)).heap.size = w.heap.size + 1 + 1 := by simp
  have b1 : Bk w.heap.size 33 #[S] (w.alloc (.cells #[S] 33)) := Bk.new _ _ _
  have b2 : Bk (w.heap.size + 1) 33 #[.slice none 0 0] ((w.alloc (.cells #[S] 33)).alloc (.cells #[.slice none 0 0] 33)) := by
    have := Bk.new (w.alloc (.cells #[S] 33)) 33 #[.slice none 0 0]
    rwa [s1] at this
  have b3 : Bk (w.heap.size + 1 + 1) 33 #[S] (((w.alloc (.cells #[S] 33)).alloc (.cells #[.slice none 0 0] 33)).alloc (.cells #[S] 33)) := by
    have := Bk.new ((w.alloc (.cells #[S] 33)).alloc (.cells #[.slice none 0 0] 33)) 33 #[S]
    rwa [s2] at this
  exact ⟨(b1.grows (.of_alloc _ _)).grows (.of_alloc _ _), b2.grows (.of_alloc _ _), b3, bTrans (bTrans (bAlloc w _) (bAlloc _ _)) (bAlloc _ _)⟩

set_option maxHeartbeats 4000000 in
set_option maxRecDepth 100000 in
theorem st_Import (L : List Fa) (A : Option Addr) (cap : Nat) (l : List Fa) (C : Option Addr) (lc : Nat) (w : World) (hn : L.length ≤ 4096) (hcap : L.length ≤ cap) (hs : SlF w A L) (hl : l.length ≤ 1000000) (hls : SlF w C l) (hfit : ∀ f ∈ l, Fit f) (hT : Tb w) :
    Calls Tryz.prog 23 #[.agg #[.slice A L.length cap], .slice C l.length lc] w fun e w' => impR L l e w' ∧ Below w.heap.size w w' := by
  obtain ⟨sb, hsb⟩ : ∃ x, w.heap.size = x := ⟨_, rfl⟩
  obtain ⟨rb, hrb⟩ : ∃ x, sb + 1 = x := ⟨_, rfl⟩
  obtain ⟨ob, hob⟩ : ∃ x, rb + 1 = x := ⟨_, rfl⟩
  obtain ⟨w3, hw3⟩ : ∃ x, ((w.alloc (.cells #[.slice A L.length cap] 33)).alloc (.cells #[.slice none 0 0] 33)).alloc (.cells #[.slice A L.length cap] 33) = x := ⟨_, rfl⟩
  have HM := Lib.hid (IM.start w _ hsb hrb hob hw3)
  have HS := Lib.hid hs
  have HLS := Lib.hid hls
  have HN := Lib.hid hn
  have HCAP := Lib.hid hcap
  have HFT := Lib.hid hfit
  have HT := Lib.hid hT
  have HNE : Hid (w.heap.size ≤ rb ∧ w.heap.size ≤ ob ∧ sb ≠ rb ∧ sb ≠ ob ∧ rb ≠ ob) := Lib.hid (by omega)
  have S0 : ((w.alloc (.cells #[.slice A L.length cap] 33)).alloc (.cells #[.slice none 0 0] 33)).cell? ⟨sb, 0, none⟩ = some (.slice A L.length cap) := by rw [← hsb]; exact ((Bk.new w 33 #[.slice A L.length cap]).grows (.of_alloc _ _)).cell 0
  clear hs hT hfit hls hcap hn
  go_enter Tryz.func23, Tryz.ntmps23
  go_wp2
  clear hsb hrb hob hw3 S0
  go_loopw [8, 10, 11, 12, 13, 17] (fun pv _ _ _ _ iv wr => ∃ (k p cp : Nat) (O : List Fa) (B : Option Addr), k ≤ l.length ∧ p ≤ k ∧ iv = .int .i64 k ∧ pv = .int .i64 p ∧ Hid (impL L L 0 l = impL L O p (l.drop k)) ∧ Hid (IM w wr sb rb ob (.slice A L.length cap) (.slice B O.length cp)) ∧ Hid (SlF wr B O) ∧ Hid (O.length ≤ cp ∧ O.length ≤ 4096)) (fun _ _ _ _ _ iv _ => l.length - (intOf iv).toNat)
  case atStart => exact ⟨0, 0, cap, L, A, Nat.zero_le _, Nat.le_refl _, rfl, rfl, Lib.hid rfl, HM, Lib.hid (HS.out.below HM.out.bel), Lib.hid ⟨HCAP.out, HN.out⟩⟩
  case round =>
    obtain ⟨k, p, cp, O, B, hk, hpk, rfl, rfl, HI, HMR, HSR, HBD⟩ := hrel
    by_cases hlt : k < l.length
    · obtain ⟨b, off, rfl, hbl, hat⟩ := SlF.open_ HLS.out (by intro h; simp [h] at hlt)
      obtain ⟨f, hx⟩ : ∃ x, l[k]? = some x := ⟨_, List.getElem?_eq_getElem hlt⟩
      have hat1 := (hat k f hx).below HMR.out.bel
      have C0 := hat1.c0
      have C1 := hat1.c1
      have C2 := hat1.c2
      have C3 := hat1.c3
      have C4 := hat1.c4
      have C5 := hat1.c5
      have C6 := hat1.c6
      have C7 := hat1.c7
      have HFF : Hid (Fit f) := Lib.hid (HFT.out f (List.mem_of_getElem? hx))
      have HI2 : Hid (impL L L 0 l = impL L O p (f :: l.drop (k + 1))) := Lib.hid (by rw [HI.out, drop_at hx])
      have HPL := Lib.hid (fun W hs => st_place O B cp f.id W (by have := HBD.out.2; omega) hs)
      clear hat hat1 hx HI
      obtain ⟨fb, hfb⟩ : ∃ x, wr.heap.size = x := ⟨_, rfl⟩
      obtain ⟨w4, hw4⟩ : ∃ x, wr.alloc (.cells (FA f) 26) = x := ⟨_, rfl⟩
      have HM4 : Hid (IM w w4 sb rb ob (.slice A L.length cap) (.slice B O.length cp)) := Lib.hid (by rw [← hw4]; exact HMR.out.below (bAlloc wr _))
      have HF4 : Hid (Bk fb 26 (FA f) w4) := Lib.hid (by rw [← hw4, ← hfb]; exact Bk.new _ _ _)
      have HS4 : Hid (SlF w4 B O) := Lib.hid (by rw [← hw4]; exact HSR.out.below (bAlloc wr _))
      have HFN : Hid (w.heap.size ≤ fb ∧ fb ≠ ob) := Lib.hid (by have h1 := HMR.out.bel.size; have h2 := HMR.out.ou.lt; omega)
      unfold FA at hw4
      go_upto_region 5 with fail
      clear C0 C1 C2 C3 C4 C5 C6 C7 hw4 hfb
      have O0 : w4.cell? ⟨ob, 0, none⟩ = some (.slice B O.length cp) := HM4.out.ou.cell 0
      have F0 : w4.cell? ⟨fb, 0, none⟩ = some (.int .u32 f.id) := HF4.out.cell 0
      go_wp2_with fail
      refine (HPL.out _ HS4.out).mono ?_
      rintro e w5 ⟨rfl, hb5⟩
      have HM5 := Lib.hid (HM4.out.below hb5)
      have HF5 : Hid (Bk fb 26 (FA f) w5) := Lib.hid ((hb5.block fb HF4.out.lt).trans HF4.out)
      have HS5 := Lib.hid (HS4.out.below hb5)
      clear O0 F0 hb5
      have HH : Hid (hitB O f = (decide (0 ≤ placeI O f.id) && (match O[(placeI O f.id).toNat]? with | some g => sameF g f | none => false))) := Lib.hid rfl
      have HPR := Lib.hid (placeI_range O f.id)
      generalize placeI O f.id = pl at *
      by_cases hpl : 0 ≤ pl
      · obtain ⟨i, rfl, hi⟩ : ∃ i : Nat, pl = (i : Int) ∧ i < O.length := by
          rcases HPR.out with h | h
          · omega
          · exact h
        obtain ⟨g, hg⟩ : ∃ g, O[i]? = some g := ⟨_, List.getElem?_eq_getElem hi⟩
        have HH2 : Hid (hitB O f = sameF g f) := Lib.hid (by rw [HH.out, Int.toNat_natCast, hg, decide_eq_true hpl]; rfl)
        obtain ⟨b2, off2, rfl, hbl2, hat2⟩ := SlF.open_ HS5.out (by intro h; simp [h] at hi)
        have hat3 := hat2 i g hg
        have E0 := hat3.c0
        have E1 := hat3.c1
        have E2 := hat3.c2
        have E3 := hat3.c3
        have E4 := hat3.c4
        have E5 := hat3.c5
        have E6 := hat3.c6
        have E7 := hat3.c7
        have O0 : w5.cell? ⟨ob, 0, none⟩ = some (.slice (some ⟨b2, off2, none⟩) O.length cp) := HM5.out.ou.cell 0
        have HSM := Lib.hid (fun W => fc_Same g f W)
        unfold FA at HSM
        obtain ⟨sm, hsm⟩ : ∃ x, sameF g f = x := ⟨_, rfl⟩
        rw [hsm] at HSM HH2
        have HH3 := Lib.hid HH2.out
        have hd : decide ((0 : Int) ≤ (i : Int)) = true := decide_eq_true hpl
        have hlt2 : (i : Int) < (O.length : Int) := by omega
        clear hat2 hat3 hg HH HPR HH2 hsm
        have F0 : w5.cell? ⟨fb, 0, none⟩ = some (.int .u32 f.id) := HF5.out.cell 0
        have F1 : w5.cell? ⟨fb, 1, none⟩ = some (.int .u32 f.pe) := HF5.out.cell 1
        have F2 : w5.cell? ⟨fb, 2, none⟩ = some (.int .i64 f.ki) := HF5.out.cell 2
        have F3 : w5.cell? ⟨fb, 3, none⟩ = some (.int .i64 f.fr) := HF5.out.cell 3
        have F4 : w5.cell? ⟨fb, 4, none⟩ = some (.int .i64 f.to) := HF5.out.cell 4
        have F5 : w5.cell? ⟨fb, 5, none⟩ = some (.string f.co) := HF5.out.cell 5
        have F6 : w5.cell? ⟨fb, 6, none⟩ = some (.int .i64 f.nu) := HF5.out.cell 6
        have F7 : w5.cell? ⟨fb, 7, none⟩ = some (.string f.tx) := HF5.out.cell 7
        go_wp2_with fail
        go_region_with (go_at_call 48; refine (HSM.out _).mono ?_; rintro e' w6 ⟨rfl, hb6⟩)
        all_goals
          have HM6 := Lib.hid (HM5.out.below (bTrans (bDrewB w5 w5.heap.size) hb6))
          have HF6 : Hid (Bk fb 26 (FA f) w6) := Lib.hid ((hb6.block fb HF5.out.lt).trans HF5.out)
          have HS6 : Hid (SlF w6 (some ⟨b2, off2, none⟩) O) := Lib.hid (HS5.out.below (bTrans (bDrewB w5 w5.heap.size) hb6))
          clear E0 E1 E2 E3 E4 E5 E6 E7 F0 F1 F2 F3 F4 F5 F6 F7 O0 hb6 HSM
          cases sm with
          | true =>
            have HI3 : Hid (impL L L 0 l = impL L O (p + 1) (l.drop (k + 1))) := Lib.hid (HI2.out.trans (impL_hit L O p f _ HH3.out))
            go_wp2
            exact ⟨⟨k + 1, p + 1, cp, O, _, by omega, by omega, by go_num, by go_num, HI3, HM6, HS6, HBD⟩, by simp [intOf]; omega⟩
          | false =>
            obtain ⟨N, en, hN⟩ : ∃ N en, addL O f = (N, en) := ⟨_, _, rfl⟩
            have HNL : Hid (N.length ≤ 4096) := Lib.hid (by have := addL_len O f HBD.out.2; rwa [hN] at this)
            have HI3 : Hid (impL L L 0 l = if en ≠ 0 then (L, 0, en) else impL L N p (l.drop (k + 1))) := Lib.hid (HI2.out.trans (impL_add L O p f _ HH3.out hN))
            have HAD := Lib.hid (st_Add O (some ⟨b2, off2, none⟩) cp f w6 HBD.out.2 HBD.out.1 HS6.out HFF.out (HT.out.below HM6.out.bel))
            unfold addR at HAD
            rw [hN] at HAD
            unfold FA at HAD
            clear hN
            have O0 : w6.cell? ⟨ob, 0, none⟩ = some (.slice (some ⟨b2, off2, none⟩) O.length cp) := HM6.out.ou.cell 0
            have F0 : w6.cell? ⟨fb, 0, none⟩ = some (.int .u32 f.id) := HF6.out.cell 0
            have F1 : w6.cell? ⟨fb, 1, none⟩ = some (.int .u32 f.pe) := HF6.out.cell 1
            have F2 : w6.cell? ⟨fb, 2, none⟩ = some (.int .i64 f.ki) := HF6.out.cell 2
            have F3 : w6.cell? ⟨fb, 3, none⟩ = some (.int .i64 f.fr) := HF6.out.cell 3
            have F4 : w6.cell? ⟨fb, 4, none⟩ = some (.int .i64 f.to) := HF6.out.cell 4
            have F5 : w6.cell? ⟨fb, 5, none⟩ = some (.string f.co) := HF6.out.cell 5
            have F6 : w6.cell? ⟨fb, 6, none⟩ = some (.int .i64 f.nu) := HF6.out.cell 6
            have F7 : w6.cell? ⟨fb, 7, none⟩ = some (.string f.tx) := HF6.out.cell 7
            go_wp2_with fail
            refine HAD.out.mono ?_
            rintro e7 w7 ⟨⟨A7, c7, rfl, hc7, hs7⟩, hb7⟩
            have HM7 := Lib.hid (HM6.out.below hb7)
            have HS7 : Hid (SlF w7 A7 N) := Lib.hid hs7
            have HC7 : Hid (N.length ≤ c7) := Lib.hid hc7
            clear O0 F0 F1 F2 F3 F4 F5 F6 F7 hb7 hs7 hc7 HAD
            obtain ⟨nb, hnb⟩ : ∃ x, w7.heap.size = x := ⟨_, rfl⟩
            obtain ⟨w8, hw8⟩ : ∃ x, w7.alloc (.cells #[.slice A7 N.length c7] 33) = x := ⟨_, rfl⟩
            have HM8 : Hid (IM w w8 sb rb ob (.slice A L.length cap) (.slice (some ⟨b2, off2, none⟩) O.length cp)) := Lib.hid (by rw [← hw8]; exact HM7.out.below (bAlloc w7 _))
            have HN8 : Hid (Bk nb 33 #[.slice A7 N.length c7] w8) := Lib.hid (by rw [← hw8, ← hnb]; exact Bk.new _ _ _)
            have HS8 : Hid (SlF w8 A7 N) := Lib.hid (by rw [← hw8]; exact HS7.out.below (bAlloc w7 _))
            by_cases hen : en = 0
            · have ben : (en != 0) = false := by rw [hen]; rfl
              have HI4 : Hid (impL L L 0 l = impL L N p (l.drop (k + 1))) := Lib.hid (by rw [HI3.out, if_neg (fun h => h hen)])
              clear hen
              have N0 : w8.cell? ⟨nb, 0, none⟩ = some (.slice A7 N.length c7) := HN8.out.cell 0
              have O8 : w8.cell? ⟨ob, 0, none⟩ = some (.slice (some ⟨b2, off2, none⟩) O.length cp) := HM8.out.ou.cell 0
              have G8 : w8.frozen? ⟨ob, 0, none⟩ = false := HM8.out.ou.frozen 0
              go_wp2
              exact ⟨⟨k + 1, p, c7, N, A7, by omega, by omega, by go_num, rfl, HI4, Lib.hid (HM8.out.put HNE.out _), Lib.hid (SlF.keepRe HS8.out HM8.out.ou _), Lib.hid ⟨HC7.out, HNL.out⟩⟩, by simp [intOf]; omega⟩
            · have ben : (en != 0) = true := bne_iff_ne.2 hen
              have LL : Hid (impL L L 0 l = (L, 0, en)) := Lib.hid (by rw [HI3.out, if_pos hen])
              clear hen
              have S8 : w8.cell? ⟨sb, 0, none⟩ = some (.slice A L.length cap) := HM8.out.st.cell 0
              have R8 : w8.cell? ⟨rb, 0, none⟩ = some (.slice none 0 0) := HM8.out.re.cell 0
              have G8 : w8.frozen? ⟨rb, 0, none⟩ = false := HM8.out.re.frozen 0
              go_wp2
              have z0 : (w8.setCell ⟨rb, 0, none⟩ (.slice A L.length cap)).cell? ⟨rb, 0, none⟩ = some (.slice A L.length cap) := (HM8.out.re.set_ 0 _).cell 0
              have hbz : Below w.heap.size w (w8.setCell ⟨rb, 0, none⟩ (.slice A L.length cap)) := HM8.out.bel.setCell (p := ⟨rb, 0, none⟩) HNE.out.1 _
              clear S8 R8 G8
              generalize w8.setCell ⟨rb, 0, none⟩ (.slice A L.length cap) = wz at *
              exact bodyPost_ret (v := .tuple #[.agg #[.slice A L.length cap], .int .i64 0, .int .i64 en]) (by simp [results, Tryz.results23, go_sem, z0]) rfl ⟨⟨A, cap, by rw [LL.out]; rfl, by rw [LL.out]; exact HCAP.out, by rw [LL.out]; exact HS.out.below hbz⟩, hbz⟩
      · have HH3 : Hid (hitB O f = false) := Lib.hid (by rw [HH.out, decide_eq_false hpl]; rfl)
        have hd : decide ((0 : Int) ≤ pl) = false := decide_eq_false hpl
        have hpl2 : ¬ 0 ≤ pl := hpl
        clear HH HPR hpl
        go_wp2_with fail
        go_quiet (fail)
        have HM6 := Lib.hid (HM5.out.below (bDrewN w5 nq))
        have HF6 : Hid (Bk fb 26 (FA f) (w5.drewN nq)) := Lib.hid HF5.out
        have HS6 : Hid (SlF (w5.drewN nq) B O) := Lib.hid (HS5.out.below (bDrewN w5 nq))
        generalize w5.drewN nq = w6 at *
        obtain ⟨N, en, hN⟩ : ∃ N en, addL O f = (N, en) := ⟨_, _, rfl⟩
        have HNL : Hid (N.length ≤ 4096) := Lib.hid (by have := addL_len O f HBD.out.2; rwa [hN] at this)
        have HI3 : Hid (impL L L 0 l = if en ≠ 0 then (L, 0, en) else impL L N p (l.drop (k + 1))) := Lib.hid (HI2.out.trans (impL_add L O p f _ HH3.out hN))
        have HAD := Lib.hid (st_Add O B cp f w6 HBD.out.2 HBD.out.1 HS6.out HFF.out (HT.out.below HM6.out.bel))
        unfold addR at HAD
        rw [hN] at HAD
        unfold FA at HAD
        clear hN
        have O0 : w6.cell? ⟨ob, 0, none⟩ = some (.slice B O.length cp) := HM6.out.ou.cell 0
        have F0 : w6.cell? ⟨fb, 0, none⟩ = some (.int .u32 f.id) := HF6.out.cell 0
        have F1 : w6.cell? ⟨fb, 1, none⟩ = some (.int .u32 f.pe) := HF6.out.cell 1
        have F2 : w6.cell? ⟨fb, 2, none⟩ = some (.int .i64 f.ki) := HF6.out.cell 2
        have F3 : w6.cell? ⟨fb, 3, none⟩ = some (.int .i64 f.fr) := HF6.out.cell 3
        have F4 : w6.cell? ⟨fb, 4, none⟩ = some (.int .i64 f.to) := HF6.out.cell 4
        have F5 : w6.cell? ⟨fb, 5, none⟩ = some (.string f.co) := HF6.out.cell 5
        have F6 : w6.cell? ⟨fb, 6, none⟩ = some (.int .i64 f.nu) := HF6.out.cell 6
        have F7 : w6.cell? ⟨fb, 7, none⟩ = some (.string f.tx) := HF6.out.cell 7
        go_wp2_with fail
        refine HAD.out.mono ?_
        rintro e7 w7 ⟨⟨A7, c7, rfl, hc7, hs7⟩, hb7⟩
        have HM7 := Lib.hid (HM6.out.below hb7)
        have HS7 : Hid (SlF w7 A7 N) := Lib.hid hs7
        have HC7 : Hid (N.length ≤ c7) := Lib.hid hc7
        clear O0 F0 F1 F2 F3 F4 F5 F6 F7 hb7 hs7 hc7 HAD
        obtain ⟨nb, hnb⟩ : ∃ x, w7.heap.size = x := ⟨_, rfl⟩
        obtain ⟨w8, hw8⟩ : ∃ x, w7.alloc (.cells #[.slice A7 N.length c7] 33) = x := ⟨_, rfl⟩
        have HM8 : Hid (IM w w8 sb rb ob (.slice A L.length cap) (.slice B O.length cp)) := Lib.hid (by rw [← hw8]; exact HM7.out.below (bAlloc w7 _))
        have HN8 : Hid (Bk nb 33 #[.slice A7 N.length c7] w8) := Lib.hid (by rw [← hw8, ← hnb]; exact Bk.new _ _ _)
        have HS8 : Hid (SlF w8 A7 N) := Lib.hid (by rw [← hw8]; exact HS7.out.below (bAlloc w7 _))
        by_cases hen : en = 0
        · have ben : (en != 0) = false := by rw [hen]; rfl
          have HI4 : Hid (impL L L 0 l = impL L N p (l.drop (k + 1))) := Lib.hid (by rw [HI3.out, if_neg (fun h => h hen)])
          clear hen
          have N0 : w8.cell? ⟨nb, 0, none⟩ = some (.slice A7 N.length c7) := HN8.out.cell 0
          have O8 : w8.cell? ⟨ob, 0, none⟩ = some (.slice B O.length cp) := HM8.out.ou.cell 0
          have G8 : w8.frozen? ⟨ob, 0, none⟩ = false := HM8.out.ou.frozen 0
          go_wp2
          exact ⟨⟨k + 1, p, c7, N, A7, by omega, by omega, by go_num, rfl, HI4, Lib.hid (HM8.out.put HNE.out _), Lib.hid (SlF.keepRe HS8.out HM8.out.ou _), Lib.hid ⟨HC7.out, HNL.out⟩⟩, by simp [intOf]; omega⟩
        · have ben : (en != 0) = true := bne_iff_ne.2 hen
          have LL : Hid (impL L L 0 l = (L, 0, en)) := Lib.hid (by rw [HI3.out, if_pos hen])
          clear hen
          have S8 : w8.cell? ⟨sb, 0, none⟩ = some (.slice A L.length cap) := HM8.out.st.cell 0
          have R8 : w8.cell? ⟨rb, 0, none⟩ = some (.slice none 0 0) := HM8.out.re.cell 0
          have G8 : w8.frozen? ⟨rb, 0, none⟩ = false := HM8.out.re.frozen 0
          go_wp2
          have z0 : (w8.setCell ⟨rb, 0, none⟩ (.slice A L.length cap)).cell? ⟨rb, 0, none⟩ = some (.slice A L.length cap) := (HM8.out.re.set_ 0 _).cell 0
          have hbz : Below w.heap.size w (w8.setCell ⟨rb, 0, none⟩ (.slice A L.length cap)) := HM8.out.bel.setCell (p := ⟨rb, 0, none⟩) HNE.out.1 _
          clear S8 R8 G8
          generalize w8.setCell ⟨rb, 0, none⟩ (.slice A L.length cap) = wz at *
          exact bodyPost_ret (v := .tuple #[.agg #[.slice A L.length cap], .int .i64 0, .int .i64 en]) (by simp [results, Tryz.results23, go_sem, z0]) rfl ⟨⟨A, cap, by rw [LL.out]; rfl, by rw [LL.out]; exact HCAP.out, by rw [LL.out]; exact HS.out.below hbz⟩, hbz⟩
    · obtain rfl : k = l.length := by omega
      have LL : Hid (impL L L 0 l = (O, p, 0)) := Lib.hid (by rw [HI.out, List.drop_length]; rfl)
      have O0 : wr.cell? ⟨ob, 0, none⟩ = some (.slice B O.length cp) := HMR.out.ou.cell 0
      have R0 : wr.cell? ⟨rb, 0, none⟩ = some (.slice none 0 0) := HMR.out.re.cell 0
      have G0 : wr.frozen? ⟨rb, 0, none⟩ = false := HMR.out.re.frozen 0
      go_wp2
      have z0 : (wr.setCell ⟨rb, 0, none⟩ (.slice B O.length cp)).cell? ⟨rb, 0, none⟩ = some (.slice B O.length cp) := (HMR.out.re.set_ 0 _).cell 0
      have hbz : Below w.heap.size w (wr.setCell ⟨rb, 0, none⟩ (.slice B O.length cp)) := HMR.out.bel.setCell (p := ⟨rb, 0, none⟩) HNE.out.1 _
      have hsz : SlF (wr.setCell ⟨rb, 0, none⟩ (.slice B O.length cp)) B O := SlF.keepRe HSR.out HMR.out.re _
      generalize wr.setCell ⟨rb, 0, none⟩ (.slice B O.length cp) = wz at *
      exact bodyPost_ret (v := .tuple #[.agg #[.slice B O.length cp], .int .i64 p, .int .i64 0]) (by simp [results, Tryz.results23, go_sem, z0]) rfl ⟨⟨B, cp, by rw [LL.out], by rw [LL.out]; exact HBD.out.1, by rw [LL.out]; exact hsz⟩, hbz⟩
end Go.Proofs.YtmngghglcgmkeaaGreatDoor

/- Which facts of a view are taken back. -/
namespace Go.Proofs.YtmngghglcgmkeaaGreatDoor
open Go.RowKit Go.Sort

/-- Which facts are taken back by the first k, by their places. -/
def backV (L : List Fa) (k : Nat) : List Value := (List.range L.length).map fun (i : Nat) => Value.bool (takenB (L.take k) (Int.ofNat i + 1))
theorem backV_len (L : List Fa) (k : Nat) : (backV L k).length = L.length := by simp [backV]
theorem backV_zero (L : List Fa) : backV L 0 = List.replicate L.length (.bool false) := by
  refine List.ext_getElem (by simp [backV]) fun i h1 h2 => ?_
  simp [backV, takenB]
theorem taken_succ {L : List Fa} {k : Nat} {f : Fa} (hf : L[k]? = some f) (n : Int) : takenB (L.take (k + 1)) n = (takenB (L.take k) n || decide (f.ki = 18 ∧ f.nu = n)) := by
  unfold takenB
  rw [List.take_add_one, hf]
  simp
theorem backV_skip {L : List Fa} {k : Nat} {f : Fa} (hf : L[k]? = some f) (h : ¬ (f.ki = 18 ∧ 1 ≤ f.nu ∧ f.nu ≤ L.length)) : backV L (k + 1) = backV L k := by
  unfold backV
  refine List.map_congr_left fun i hi => ?_
  have hi2 : i < L.length := List.mem_range.1 hi
  rw [taken_succ hf, decide_eq_false (by rintro ⟨h2, h3⟩; exact h ⟨h2, by rw [h3]; simp only [Int.ofNat_eq_natCast]; omega, by rw [h3]; simp only [Int.ofNat_eq_natCast]; omega⟩), Bool.or_false]
theorem backV_set {L : List Fa} {k : Nat} {f : Fa} (hf : L[k]? = some f) (h1 : f.ki = 18) {m : Nat} (h2 : f.nu = (m : Int) + 1) : backV L (k + 1) = (backV L k).set m (.bool true) := by
  refine List.ext_getElem (by simp [backV]) fun i h4 h5 => ?_
  rw [List.getElem_set]
  simp only [backV, List.getElem_map, List.getElem_range, taken_succ hf]
  by_cases hm : m = i
  · subst hm
    rw [if_pos rfl, decide_eq_true ⟨h1, by rw [h2]; rfl⟩, Bool.or_true]
  · rw [if_neg hm, decide_eq_false (by rintro ⟨_, h⟩; simp only [Int.ofNat_eq_natCast] at h; omega), Bool.or_false]
theorem boolInfo : (Tryz.prog.info? 4).map (fun i => (i.zero, i.size, i.bytes)) = some (some (.bool false), 1, 1) := by kernel_rfl
theorem run_makeB (n : Nat) (hn : n ≤ 5000) (W : World) : (Instr.makeSlice 143 (.int .i64 n) (.int .i64 n)).run Tryz.prog W = .ok (.slice (some ⟨W.heap.size, 0, none⟩) n n) (W.alloc (.cells (Array.replicate n (Value.bool false)) 4)) := by
  obtain ⟨i, h1, h2, h3, h4⟩ := info_parts boolInfo
  have h := run_makeSlice (P := Tryz.prog) W 143 4 i _ Tryz.underlying143 h1 h2 .i64 .i64 n n (by omega) (by omega) (by rw [h3, Int.toNat_natCast]; omega) (by rw [h4]; omega) (by omega)
  rw [h3, Int.toNat_natCast] at h
  have hm : madeCells (Value.bool false).cells (n * 1) = Array.replicate n (Value.bool false) := by
    rw [Nat.mul_one]
    exact Array.toList_inj.1 (by rw [show (Value.bool false).cells = #[Value.bool false] from rfl, toList_madeCells_one, Array.toList_replicate])
  rw [h, hm]
set_option maxHeartbeats 4000000 in
set_option maxRecDepth 100000 in
theorem vi_back (L : List Fa) (A : Option Addr) (cap : Nat) (w : World) (hn : L.length ≤ 4096) (hs : SlF w A L) :
    Calls Tryz.prog 73 #[.agg #[.slice A L.length cap]] w fun e w' => (∃ g, e = .returned (.slice (some ⟨g, 0, none⟩) L.length L.length) ∧ w.heap.size ≤ g ∧ Bk g 4 (backV L L.length).toArray w') ∧ Below w.heap.size w w' := by
  obtain ⟨vb, hvb⟩ : ∃ x, w.heap.size = x := ⟨_, rfl⟩
  obtain ⟨w2, hw2⟩ : ∃ x, w.alloc (.cells #[.slice A L.length cap] 43) = x := ⟨_, rfl⟩
  have HS := Lib.hid hs
  have HV2 : Hid (Bk vb 43 #[.slice A L.length cap] w2) := Lib.hid (by rw [← hw2, ← hvb]; exact Bk.new _ _ _)
  have HB2 : Hid (Below w.heap.size w w2) := Lib.hid (by rw [← hw2]; exact bAlloc w _)
  have hmk := run_makeB L.length (by omega)
  clear hs
  have V0 : w2.cell? ⟨vb, 0, none⟩ = some (.slice A L.length cap) := HV2.out.cell 0
  obtain ⟨g, hg⟩ : ∃ x, w2.heap.size = x := ⟨_, rfl⟩
  obtain ⟨w3, hw3⟩ : ∃ x, w2.alloc (.cells (Array.replicate L.length (Value.bool false)) 4) = x := ⟨_, rfl⟩
  have HB3 : Hid (Below w.heap.size w w3) := Lib.hid (by rw [← hw3]; exact bTrans HB2.out (bAlloc w2 _))
  have HG3 : Hid (Bk g 4 (backV L 0).toArray w3) := Lib.hid (by rw [← hw3, ← hg, backV_zero]; simpa using Bk.new w2 4 (Array.replicate L.length (Value.bool false)))
  have HGE : Hid (w.heap.size ≤ g) := Lib.hid (by have := HB2.out.size; omega)
  have V1 : w3.cell? ⟨vb, 0, none⟩ = some (.slice A L.length cap) := by rw [← hw3]; exact (HV2.out.grows (.of_alloc _ _)).cell 0
  go_enter Tryz.func73, Tryz.ntmps73
  go_wp2
  clear V0 V1 hmk hw2 hvb hw3 hg
  go_loopw [5, 13] (fun _ iv wr => ∃ k : Nat, k ≤ L.length ∧ iv = .int .i64 k ∧ Hid (Bk g 4 (backV L k).toArray wr) ∧ Hid (Below w.heap.size w wr)) (fun _ iv _ => L.length - (intOf iv).toNat)
  case atStart => exact ⟨0, Nat.zero_le _, rfl, HG3, HB3⟩
  case round =>
    obtain ⟨k, hk, rfl, HG, HB⟩ := hrel
    by_cases hlt : k < L.length
    · obtain ⟨b, off, rfl, hbl, hat⟩ := SlF.open_ HS.out (by intro h; simp [h] at hlt)
      obtain ⟨f, hx⟩ : ∃ x, L[k]? = some x := ⟨_, List.getElem?_eq_getElem hlt⟩
      have hat1 := (hat k f hx).below HB.out
      have C0 := hat1.c0
      have C1 := hat1.c1
      have C2 := hat1.c2
      have C3 := hat1.c3
      have C4 := hat1.c4
      have C5 := hat1.c5
      have C6 := hat1.c6
      have C7 := hat1.c7
      have HX := Lib.hid hx
      have HBA : Hid (∀ o, Below w.heap.size w (wr.alloc o)) := Lib.hid (fun o => bTrans HB.out (bAlloc wr o))
      have HGA : Hid (∀ o, Bk g 4 (backV L k).toArray (wr.alloc o)) := Lib.hid (fun o => HG.out.grows (.of_alloc _ _))
      clear hat hat1 hx
      by_cases h18 : f.ki = 18
      · have b18 : (f.ki == 18) = true := beq_iff_eq.2 h18
        have H18 := Lib.hid h18
        clear h18
        by_cases hlo : 1 ≤ f.nu
        · by_cases hhi : f.nu ≤ (L.length : Int)
          · obtain ⟨m, hm⟩ : ∃ m : Nat, f.nu = (m : Int) + 1 := ⟨(f.nu - 1).toNat, by omega⟩
            have HSET := Lib.hid (backV_set HX.out H18.out hm)
            have hw1 : IntKind.i64.wrap (f.nu - 1) = f.nu - 1 := IntWalk.i64_in _ (by omega)
            have hge : 0 ≤ f.nu - 1 := by omega
            have hltn : f.nu - 1 < (L.length : Int) := by omega
            have htn : (f.nu - 1).toNat = m := by omega
            have HNE : Hid (m < L.length) := Lib.hid (by omega)
            have HSW : Hid (∀ o, Bk g 4 (backV L (k + 1)).toArray ((wr.alloc o).setCell ⟨g, m, none⟩ (.bool true))) := Lib.hid (fun o => by
              rw [HSET.out]
              have := (HGA.out o).set_ m (.bool true)
              simpa using this)
            clear hm
            have hd1 : decide ((1 : Int) ≤ f.nu) = true := decide_eq_true hlo
            have hd2 : decide (f.nu ≤ (L.length : Int)) = true := decide_eq_true hhi
            have D0 : ∀ o, (wr.alloc o).cell? ⟨g, m, none⟩ = some ((backV L k)[m]'(by rw [backV_len]; exact HNE.out)) := fun o => by rw [(HGA.out o).cell]; simp
            have D1 : ∀ o, (wr.alloc o).frozen? ⟨g, m, none⟩ = false := fun o => (HGA.out o).frozen m
            go_wp2
            refine ⟨⟨k + 1, by omega, by go_num, Lib.hid ?_, Lib.hid ?_⟩, by simp [intOf]; omega⟩
            · exact HSW.out _
            · exact (HBA.out _).setCell (p := ⟨g, m, none⟩) HGE.out _
          · have HSK := Lib.hid (backV_skip HX.out (fun h => hhi h.2.2))
            have hd1 : decide ((1 : Int) ≤ f.nu) = true := decide_eq_true hlo
            have hd2 : decide (f.nu ≤ (L.length : Int)) = false := decide_eq_false hhi
            go_wp2
            exact ⟨⟨k + 1, by omega, by go_num, Lib.hid (by rw [HSK.out]; exact HGA.out _), Lib.hid (HBA.out _)⟩, by simp [intOf]; omega⟩
        · have HSK := Lib.hid (backV_skip HX.out (fun h => hlo h.2.1))
          have hd1 : decide ((1 : Int) ≤ f.nu) = false := decide_eq_false hlo
          go_wp2
          exact ⟨⟨k + 1, by omega, by go_num, Lib.hid (by rw [HSK.out]; exact HGA.out _), Lib.hid (HBA.out _)⟩, by simp [intOf]; omega⟩
      · have b18 : (f.ki == 18) = false := beq_eq_false_iff_ne.2 h18
        have HSK := Lib.hid (backV_skip HX.out (fun h => h18 h.1))
        clear h18
        go_wp2
        exact ⟨⟨k + 1, by omega, by go_num, Lib.hid (by rw [HSK.out]; exact HGA.out _), Lib.hid (HBA.out _)⟩, by simp [intOf]; omega⟩
    · obtain rfl : k = L.length := by omega
      go_wp2
      go_ret
      exact ⟨⟨g, rfl, HGE.out, HG.out⟩, HB.out⟩
end Go.Proofs.YtmngghglcgmkeaaGreatDoor
