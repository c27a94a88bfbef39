import Derived.Test.YtdpejolpjhlibaaGreatDoorAd9
import Derived.Test.YtdpejolpjhlibaaGreatDoorImps
import Derived.Laws.StructEq
import Derived.Deep.QuietTactic
import Derived.BigQuiet
/- The document's store with facts more. -/
namespace Go.Proofs.YtdpejolpjhlibaaGreatDoor
open Go.RowKit Go.Sort

/-- Are two facts the same, ID and all? -/
def eqF (g f : Fa) : Bool := decide (g.id = f.id) && sameF g f
set_option maxHeartbeats 2000000 in
set_option maxRecDepth 100000 in
theorem run_eqF (g f : Fa) (w : World) : (binOp .eql 37 (.agg (FA g)) (.agg (FA f))).run Tryz.prog w = .ok (.bool (eqF g f)) w := by
  unfold FA eqF sameF
  by_cases h1 : g.id = f.id
  · by_cases h2 : g.pe = f.pe
    · by_cases h3 : g.ki = f.ki
      · by_cases h4 : g.fr = f.fr
        · by_cases h5 : g.to = f.to
          · by_cases h6 : g.co.toList = f.co.toList
            · by_cases h7 : g.nu = f.nu
              · by_cases h8 : g.tx.toList = f.tx.toList
                all_goals go_simp
              · go_simp
            · go_simp
          · go_simp
        · go_simp
      · go_simp
    · go_simp
  · go_simp
theorem idxI_id {id : Int} : ∀ (L : List Fa) (j i : Nat) (g : Fa), idxI id j L = ((j + i : Nat) : Int) → L[i]? = some g → g.id = id
  | [], _, _, _, _, h => by simp at h
  | f :: L, j, i, g, he, h => by
    unfold idxI at he
    by_cases hf : f.id = id
    · rw [if_pos hf] at he
      obtain rfl : i = 0 := by omega
      have : f = g := by simpa using h
      subst this; exact hf
    · rw [if_neg hf] at he
      cases i with
      | zero =>
        rcases idxI_range (id := id) L (j + 1) with h1 | ⟨i', h1, _⟩
        · rw [h1] at he; omega
        · rw [h1] at he; omega
      | succ i => exact idxI_id L (j + 1) i g (by rw [he]; congr 1; omega) (by simpa using h)
theorem placeI_id {L : List Fa} {id : Int} {i : Nat} {g : Fa} (he : placeI L id = (i : Int)) (h : L[i]? = some g) : g.id = id := by
  unfold placeI at he
  split at he
  · omega
  · exact idxI_id L 0 i g (by rw [he]; simp) h
def impR9 (L l : List Fa) (e : Ending) (w' : World) : Prop := ∃ A cap, e = .returned (.tuple #[.slice A (impL L L 0 l).1.length cap, .int .i64 ((impL L L 0 l).2.1 : Nat), .int .i64 (impL L L 0 l).2.2]) ∧ (impL L L 0 l).1.length ≤ cap ∧ SlF w' A (impL L L 0 l).1
theorem impR9_of {L l N : List Fa} {p : Nat} {c : Int} {A : Option Addr} {cap : Nat} {w' : World} (LL : impL L L 0 l = (N, p, c)) (hc : N.length ≤ cap) (hs : SlF w' A N) : impR9 L l (.returned (.tuple #[.slice A N.length cap, .int .i64 p, .int .i64 c])) w' :=
  ⟨A, cap, by rw [LL], by rw [LL]; exact hc, by rw [LL]; exact hs⟩

set_option maxHeartbeats 4000000 in
set_option maxRecDepth 100000 in
theorem r9_Import (L : List Fa) (A : Option Addr) (cap : Nat) (l : List Fa) (C : Option Addr) (lc : Nat) (w : World) (hn : L.length ≤ 4096) (hcap : L.length ≤ cap) (hs : SlF w A L) (hl : l.length ≤ 1000000) (hls : SlF w C l) (hfit : ∀ f ∈ l, Fit f) :
    Calls Tryz.prog 24 #[.slice A L.length cap, .slice C l.length lc] w fun e w' => impR9 L l e w' ∧ Below w.heap.size w w' := by
  have HS := Lib.hid hs
  have HLS := Lib.hid hls
  have HN := Lib.hid hn
  have HCAP := Lib.hid hcap
  have HFT := Lib.hid hfit
  clear hs hfit hls hcap hn
  go_enter Tryz.func24, Tryz.ntmps24
  go_wp2
  go_loopw [0, 8, 9] (fun ov pv iv wr => ∃ (k p cp : Nat) (O : List Fa) (B : Option Addr), k ≤ l.length ∧ p ≤ k ∧ ov = .slice B O.length cp ∧ iv = .int .i64 k ∧ pv = .int .i64 p ∧ Hid (impL L L 0 l = impL L O p (l.drop k)) ∧ Hid (Below w.heap.size w wr) ∧ Hid (SlF wr B O) ∧ Hid (O.length ≤ cp ∧ O.length ≤ 4096)) (fun _ _ iv _ => l.length - (intOf iv).toNat)
  case atStart => exact ⟨0, 0, cap, L, A, Nat.zero_le _, Nat.le_refl _, rfl, rfl, rfl, Lib.hid rfl, Lib.hid (Below.refl _ _), HS, Lib.hid ⟨HCAP.out, HN.out⟩⟩
  case round =>
    obtain ⟨k, p, cp, O, B, hk, hpk, rfl, rfl, rfl, HI, HBR, HSR, HBD⟩ := hrel
    by_cases hlt : k < l.length
    · obtain ⟨b, off, rfl, hbl, hat⟩ := SlF.open_ HLS.out (by intro h; simp [h] at hlt)
      obtain ⟨f, hx⟩ : ∃ x, l[k]? = some x := ⟨_, List.getElem?_eq_getElem hlt⟩
      have HAT : Hid (∀ W, Below w.heap.size w W → At8 W b (off + k * 8) f) := Lib.hid fun W hW => (hat k f hx).below hW
      have HFF : Hid (Fit f) := Lib.hid (HFT.out f (List.mem_of_getElem? hx))
      have HI2 : Hid (impL L L 0 l = impL L O p (f :: l.drop (k + 1))) := Lib.hid (by rw [HI.out, drop_at hx])
      have HPL := Lib.hid (r9_there O B cp f.id wr (by have := HBD.out.2; omega) HSR.out)
      clear hat hx HI
      have C0 := (HAT.out wr HBR.out).c0
      go_upto_region 5 with fail
      go_wp2_with fail
      refine HPL.out.mono ?_
      rintro e w5 ⟨rfl, hb5⟩
      have HB5 := Lib.hid (bTrans HBR.out hb5)
      have HS5 : Hid (SlF w5 B O) := Lib.hid (HSR.out.below hb5)
      clear C0 hb5 HPL
      have HH : Hid (hitB O f = (decide (0 ≤ placeI O f.id) && (match O[(placeI O f.id).toNat]? with | some g => sameF g f | none => false))) := Lib.hid rfl
      have HPR := Lib.hid (placeI_range O f.id)
      have HPI : Hid (∀ (i : Nat) (g : Fa), placeI O f.id = (i : Int) → O[i]? = some g → g.id = f.id) := Lib.hid fun i g => placeI_id
      generalize placeI O f.id = pl at *
      by_cases hpl : 0 ≤ pl
      · obtain ⟨i, rfl, hi⟩ : ∃ i : Nat, pl = (i : Int) ∧ i < O.length := by
          rcases HPR.out with h | h
          · omega
          · exact h
        obtain ⟨g, hg⟩ : ∃ g, O[i]? = some g := ⟨_, List.getElem?_eq_getElem hi⟩
        have HH2 : Hid (hitB O f = eqF g f) := Lib.hid (by
          rw [HH.out, Int.toNat_natCast, hg, decide_eq_true hpl]
          unfold eqF
          rw [decide_eq_true (HPI.out i g rfl hg)])
        obtain ⟨b2, off2, rfl, hbl2, hat2⟩ := SlF.open_ HS5.out (by intro h; simp [h] at hi)
        have hat3 := hat2 i g hg
        have E0 := hat3.c0
        have E1 := hat3.c1
        have E2 := hat3.c2
        have E3 := hat3.c3
        have E4 := hat3.c4
        have E5 := hat3.c5
        have E6 := hat3.c6
        have E7 := hat3.c7
        have hat4 := HAT.out w5 HB5.out
        have C0 := hat4.c0
        have C1 := hat4.c1
        have C2 := hat4.c2
        have C3 := hat4.c3
        have C4 := hat4.c4
        have C5 := hat4.c5
        have C6 := hat4.c6
        have C7 := hat4.c7
        obtain ⟨sm, hsm⟩ : ∃ x, eqF g f = x := ⟨_, rfl⟩
        have hq : ∀ W : World, (binOp .eql 37 (.agg (FA g)) (.agg (FA f))).run Tryz.prog W = .ok (.bool sm) W := fun W => by rw [run_eqF, hsm]
        unfold FA at hq
        have HH3 : Hid (hitB O f = sm) := Lib.hid (HH2.out.trans hsm)
        have hd : decide ((0 : Int) ≤ (i : Int)) = true := decide_eq_true hpl
        have hlt2 : (i : Int) < (O.length : Int) := by omega
        clear hat2 hat3 hat4 hg HH HPR HH2 hsm HPI
        go_wp2_with fail
        go_quiet (fail)
        have HB6 : Hid (Below w.heap.size w (w5.drewN nq)) := Lib.hid (bTrans HB5.out (bDrewN w5 nq))
        have HS6 : Hid (SlF (w5.drewN nq) (some ⟨b2, off2, none⟩) O) := Lib.hid (HS5.out.below (bDrewN w5 nq))
        generalize w5.drewN nq = w6 at *
        clear E0 E1 E2 E3 E4 E5 E6 E7 C0 C1 C2 C3 C4 C5 C6 C7 hq
        cases sm with
        | true =>
          have HI3 : Hid (impL L L 0 l = impL L O (p + 1) (l.drop (k + 1))) := Lib.hid (HI2.out.trans (impL_hit L O p f _ HH3.out))
          go_wp2
          exact ⟨⟨k + 1, p + 1, cp, O, _, by omega, by omega, rfl, by go_num, by go_num, HI3, HB6, HS6, HBD⟩, by simp [intOf]; omega⟩
        | false =>
          obtain ⟨N, en, hN⟩ : ∃ N en, addL O f = (N, en) := ⟨_, _, rfl⟩
          have HNL : Hid (N.length ≤ 4096) := Lib.hid (by have := addL_len O f HBD.out.2; rwa [hN] at this)
          have HI3 : Hid (impL L L 0 l = if en ≠ 0 then (L, 0, en) else impL L N p (l.drop (k + 1))) := Lib.hid (HI2.out.trans (impL_add L O p f _ HH3.out hN))
          have HAD := Lib.hid (r9_Add O (some ⟨b2, off2, none⟩) cp f w6 HBD.out.2 HBD.out.1 HS6.out HFF.out)
          unfold addR9 at HAD
          rw [hN] at HAD
          unfold FA at HAD
          clear hN
          obtain ⟨C0, C1, C2, C3, C4, C5, C6, C7⟩ := HAT.out w6 HB6.out
          go_wp2_with fail
          refine HAD.out.mono ?_
          rintro e7 w7 ⟨⟨A7, c7, rfl, hc7, hs7⟩, hb7⟩
          have HB7 := Lib.hid (bTrans HB6.out hb7)
          have HS7 : Hid (SlF w7 A7 N) := Lib.hid hs7
          have HC7 : Hid (N.length ≤ c7) := Lib.hid hc7
          clear C0 C1 C2 C3 C4 C5 C6 C7 hb7 hs7 hc7 HAD
          by_cases hen : en = 0
          · have ben : (en != 0) = false := by rw [hen]; rfl
            have HI4 : Hid (impL L L 0 l = impL L N p (l.drop (k + 1))) := Lib.hid (by rw [HI3.out, if_neg (fun h => h hen)])
            clear hen
            go_wp2
            exact ⟨⟨k + 1, p, c7, N, A7, by omega, by omega, rfl, by go_num, rfl, HI4, HB7, HS7, Lib.hid ⟨HC7.out, HNL.out⟩⟩, by simp [intOf]; omega⟩
          · have ben : (en != 0) = true := bne_iff_ne.2 hen
            have LL : Hid (impL L L 0 l = (L, 0, en)) := Lib.hid (by rw [HI3.out, if_pos hen])
            clear hen
            go_wp2
            go_ret3
            exact ⟨impR9_of (p := 0) LL.out HCAP.out (HS.out.below HB7.out), HB7.out⟩
      · have HH3 : Hid (hitB O f = false) := Lib.hid (by rw [HH.out, decide_eq_false hpl]; rfl)
        have hd : decide ((0 : Int) ≤ pl) = false := decide_eq_false hpl
        have hpl2 : ¬ 0 ≤ pl := hpl
        clear HH HPR hpl
        go_wp2_with fail
        go_quiet (fail)
        have HB6 : Hid (Below w.heap.size w (w5.drewN nq)) := Lib.hid (bTrans HB5.out (bDrewN w5 nq))
        have HS6 : Hid (SlF (w5.drewN nq) B O) := Lib.hid (HS5.out.below (bDrewN w5 nq))
        generalize w5.drewN nq = w6 at *
        obtain ⟨N, en, hN⟩ : ∃ N en, addL O f = (N, en) := ⟨_, _, rfl⟩
        have HNL : Hid (N.length ≤ 4096) := Lib.hid (by have := addL_len O f HBD.out.2; rwa [hN] at this)
        have HI3 : Hid (impL L L 0 l = if en ≠ 0 then (L, 0, en) else impL L N p (l.drop (k + 1))) := Lib.hid (HI2.out.trans (impL_add L O p f _ HH3.out hN))
        have HAD := Lib.hid (r9_Add O B cp f w6 HBD.out.2 HBD.out.1 HS6.out HFF.out)
        unfold addR9 at HAD
        rw [hN] at HAD
        unfold FA at HAD
        clear hN
        obtain ⟨C0, C1, C2, C3, C4, C5, C6, C7⟩ := HAT.out w6 HB6.out
        go_wp2_with fail
        refine HAD.out.mono ?_
        rintro e7 w7 ⟨⟨A7, c7, rfl, hc7, hs7⟩, hb7⟩
        have HB7 := Lib.hid (bTrans HB6.out hb7)
        have HS7 : Hid (SlF w7 A7 N) := Lib.hid hs7
        have HC7 : Hid (N.length ≤ c7) := Lib.hid hc7
        clear C0 C1 C2 C3 C4 C5 C6 C7 hb7 hs7 hc7 HAD
        by_cases hen : en = 0
        · have ben : (en != 0) = false := by rw [hen]; rfl
          have HI4 : Hid (impL L L 0 l = impL L N p (l.drop (k + 1))) := Lib.hid (by rw [HI3.out, if_neg (fun h => h hen)])
          clear hen
          go_wp2
          exact ⟨⟨k + 1, p, c7, N, A7, by omega, by omega, rfl, by go_num, rfl, HI4, HB7, HS7, Lib.hid ⟨HC7.out, HNL.out⟩⟩, by simp [intOf]; omega⟩
        · have ben : (en != 0) = true := bne_iff_ne.2 hen
          have LL : Hid (impL L L 0 l = (L, 0, en)) := Lib.hid (by rw [HI3.out, if_pos hen])
          clear hen
          go_wp2
          go_ret3
          exact ⟨impR9_of (p := 0) LL.out HCAP.out (HS.out.below HB7.out), HB7.out⟩
    · obtain rfl : k = l.length := by omega
      have LL : Hid (impL L L 0 l = (O, p, 0)) := Lib.hid (by rw [HI.out, List.drop_length]; rfl)
      go_wp2
      go_ret3
      exact ⟨impR9_of LL.out HBD.out.1 HSR.out, HBR.out⟩
end Go.Proofs.YtdpejolpjhlibaaGreatDoor
