/- Merged from: UiH Pe2 UiI. -/
import Derived.Test.YtdpejolpjhlibaaGreatDoorHa9
import Derived.Deep.DeepCutAuto
import Derived.Deep.LoopGhost
import Derived.Test.YtdpejolpjhlibaaGreatDoorUs4
namespace Go.Proofs.YtdpejolpjhlibaaGreatDoor
open Go.RowKit Go.Sort

theorem ownQ_down {B B' : Nat} {v : Value} {l : List Kn} {w : World} (h : OwnQ B v l w) (hB : B' ≤ B) : OwnQ B' v l w := by
  rcases h with ⟨h1, h2⟩
  refine ⟨h1, ?_⟩
  rcases h2 with h0 | ⟨g, cap, cur, hv, hb, hr⟩
  · exact .inl h0
  · exact .inr ⟨g, cap, cur, hv, Nat.le_trans hB hb, hr⟩
/-- Whence the facts of a kind are taken. -/
def fromL (L : List Fa) (ki : Int) : List Kn := if ki = 18 then allK L L.length else forceL L
def factsR (L : List Fa) (pe ki : Int) : List Kn := (fromL L ki).filter fun x => ofPK pe ki x.2
theorem fromL_len (L : List Fa) (ki : Int) : (fromL L ki).length ≤ L.length := by
  unfold fromL
  split
  · exact allK_len _ _
  · exact chosen_len _ _ _
theorem filt_take {p : Kn → Bool} {X : List Kn} {i : Nat} {x : Kn} (h : X[i]? = some x) : (X.take (i + 1)).filter p = (X.take i).filter p ++ (if p x = true then [x] else []) := by
  rw [List.take_add_one, h]
  simp [List.filter_cons]
/-- What the choice of a source leaves. -/
def FromOk (B : Nat) (L : List Fa) (ki : Int) (v : Value) (w W : World) : Prop := OwnQ B v (fromL L ki) W ∧ Below w.heap.size w W

set_option maxHeartbeats 8000000 in
set_option maxRecDepth 100000 in
theorem r9_Facts (L : List Fa) (A : Option Addr) (cap : Nat) (pe ki : Int) (w : World) (hn : L.length ≤ 4096) (hs : SlF w A L) :
    Calls Tryz.prog 49 #[.slice A L.length cap, .int .u32 pe, .int .i64 ki] w fun e w' => (∃ v, e = .returned v ∧ OwnQ w.heap.size v (factsR L pe ki) w') ∧ Below w.heap.size w w' := by
  have HS := Lib.hid hs
  have HFO := Lib.hid (r9_Force L A cap w hn hs)
  clear hs
  go_enter Tryz.func49, Tryz.ntmps49
  go_wp2_with fail
  refine HFO.out.mono ?_
  rintro e w3 ⟨⟨v, rfl, ho⟩, hb3⟩
  have HB3 := Lib.hid hb3
  have HO3 := Lib.hid ho
  clear ho hb3 HFO
  obtain ⟨cb, hcb⟩ : ∃ z, (ki == 18) = z := ⟨_, rfl⟩
  go_upto_if 14 with fail
  have HCB := Lib.hid hcb
  clear hcb
  go_cut [7, 8] (fun s7 s8 wc => Hid (FromOk w.heap.size L ki s7 w wc))
  case first =>
    cases cb with
    | true =>
      have h18 : ki = 18 := beq_iff_eq.1 HCB.out
      have HFR : Hid (fromL L ki = allK L L.length) := Lib.hid (by unfold fromL; rw [if_pos h18])
      clear h18
      go_wp2
      go_loopg [7, 8] L.length (fun n ov iv wr => ∃ k : Nat, k + n = L.length ∧ iv = .int .i64 k ∧ Hid (OwnQ w.heap.size ov (allK L k) wr) ∧ Hid (Below w.heap.size w wr))
      case atStart => exact ⟨0, by omega, rfl, Lib.hid (Own.nil _), HB3⟩
      case round =>
        obtain ⟨k, hk, rfl, HO, HB⟩ := hrel
        by_cases hlt : k < L.length
        · obtain ⟨b, off, rfl, hbl, hat⟩ := SlF.open_ HS.out (by intro h; simp [h] at hlt)
          obtain ⟨f, hx⟩ : ∃ x, L[k]? = some x := ⟨_, List.getElem?_eq_getElem hlt⟩
          have HC := Lib.hid (allK_succ hx)
          obtain ⟨C0, C1, C2, C3, C4, C5, C6, C7⟩ := (hat k f hx).below HB.out
          have HL : (allK L k).length + 1 ≤ 1000000000 := by have := allK_len L k; omega
          have HSZ : Hid (w.heap.size ≤ wr.heap.size) := Lib.hid HB.out.size
          have hlt2 : (k : Int) < (L.length : Int) := by omega
          clear hat hx
          go_wp2_with ((at_builtin; refine wpList_append_row encK_len encK_one rfl _ _ 43 rfl w.heap.size 71 _ 80 Tryz.underlying43 rknownInfo rfl (by decide) _ (allK L k) ((k : Int) + 1, f) rfl (HO.out.alloc _) wr.heap.size 1 rfl (newsQ ((k : Int) + 1, f) wr) HL (by decide) (Nat.le_trans HSZ.out (Grows.of_alloc _ _).size) ?_))
          intro v6 w6 hown6 hgr6
          have HB6 : Hid (Below w.heap.size w w6) := Lib.hid (belowQ (bTrans HB.out (bAlloc wr _)) (Nat.le_trans HSZ.out (Grows.of_alloc _ _).size) (HO.out.alloc _) hgr6)
          have HO6 : Hid (OwnQ w.heap.size v6 (allK L (k + 1)) w6) := Lib.hid (by rw [HC.out]; exact hown6)
          clear hown6 hgr6 C0 C1 C2 C3 C4 C5 C6 C7
          go_wp2
          go_roundg (L.length - (k + 1))
          case measure => omega
          case rel => exact ⟨k + 1, by omega, by go_num, HO6, HB6⟩
        · obtain rfl : k = L.length := by omega
          go_wp2_with fail
          go_meet
          exact Lib.hid ⟨by rw [HFR.out]; exact HO.out, HB.out⟩
    | false =>
      have h18 : ¬ ki = 18 := beq_eq_false_iff_ne.1 HCB.out
      have HFR : Hid (fromL L ki = forceL L) := Lib.hid (by unfold fromL; rw [if_neg h18])
      clear h18
      go_wp2_with fail
      go_meet
      exact Lib.hid ⟨by rw [HFR.out]; exact HO3.out, HB3.out⟩
  case rest =>
    have HOC := Lib.hid hcut.out.1
    have HBC := Lib.hid hcut.out.2
    clear hcut HO3 HB3
    have hlx := fromL_len L ki
    have HFR : Hid (factsR L pe ki = (fromL L ki).filter fun x => ofPK pe ki x.2) := Lib.hid rfl
    obtain ⟨X, hX⟩ : ∃ X, fromL L ki = X := ⟨_, rfl⟩
    rw [hX] at HOC hlx HFR
    obtain ⟨A3, c3, rfl, hc3, hs3⟩ := OwnQ.sl HOC.out
    have HS3 := Lib.hid hs3
    clear hX hs3 HOC hc3
    go_wp2
    go_loopg [9, 10] X.length (fun n ov iv wr => ∃ k : Nat, k + n = X.length ∧ iv = .int .i64 k ∧ Hid (OwnQ wc.heap.size ov ((X.take k).filter fun x => ofPK pe ki x.2) wr) ∧ Hid (Below wc.heap.size wc wr))
    case atStart => exact ⟨0, by omega, rfl, Lib.hid (Own.nil _), Lib.hid (Below.refl _ _)⟩
    case round =>
      obtain ⟨k, hk, rfl, HO, HB⟩ := hrel
      by_cases hlt : k < X.length
      · obtain ⟨⟨n, f⟩, hx⟩ : ∃ x, X[k]? = some x := ⟨_, List.getElem?_eq_getElem hlt⟩
        obtain ⟨b, off, rfl, hbl, hat⟩ := HS3.out (by intro h; simp [h] at hlt)
        have hat2 : ∀ j u, (encK (n, f))[j]? = some u → wr.cell? ⟨b, off + k * 9 + j, none⟩ = some u := fun j u hu => bCell HB.out (hat k _ hx j u hu)
        have G0 := hat2 0 _ rfl
        have G1 := hat2 1 _ rfl
        have G2 := hat2 2 _ rfl
        have G3 := hat2 3 _ rfl
        have G4 := hat2 4 _ rfl
        have G5 := hat2 5 _ rfl
        have G6 := hat2 6 _ rfl
        have G7 := hat2 7 _ rfl
        have G8 := hat2 8 _ rfl
        simp only [Nat.add_zero] at G0
        have HC := Lib.hid (filt_take (p := fun x => ofPK pe ki x.2) hx)
        have HL : ((X.take k).filter fun x => ofPK pe ki x.2).length + 1 ≤ 1000000000 := by
          have h1 := List.length_filter_le (fun x : Kn => ofPK pe ki x.2) (X.take k)
          rw [List.length_take] at h1
          omega
        have HSZ : Hid (wc.heap.size ≤ wr.heap.size) := Lib.hid HB.out.size
        have hlt2 : (k : Int) < (X.length : Int) := by omega
        obtain ⟨P, hP⟩ : ∃ P, (X.take k).filter (fun x => ofPK pe ki x.2) = P := ⟨_, rfl⟩
        rw [hP] at HO HC HL
        clear hat hat2 hx hP
        by_cases hp : f.pe = pe
        · have bp : (f.pe == pe) = true := beq_iff_eq.2 hp
          by_cases hq : f.ki = ki
          · have bq : (f.ki == ki) = true := beq_iff_eq.2 hq
            have HC2 : Hid ((X.take (k + 1)).filter (fun x => ofPK pe ki x.2) = P ++ [(n, f)]) := Lib.hid (by rw [HC.out, if_pos (show ofPK pe ki (n, f).2 = true from decide_eq_true ⟨hp, hq⟩)])
            clear hp hq
            go_wp2_with ((at_builtin; refine wpList_append_row encK_len encK_one rfl _ _ 43 rfl wc.heap.size 71 _ 80 Tryz.underlying43 rknownInfo rfl (by decide) _ P (n, f) rfl (HO.out.alloc _) wr.heap.size 1 rfl (newsQ (n, f) wr) HL (by decide) (Nat.le_trans HSZ.out (Grows.of_alloc _ _).size) ?_))
            intro v6 w6 hown6 hgr6
            have HB6 : Hid (Below wc.heap.size wc w6) := Lib.hid (belowQ (bTrans HB.out (bAlloc wr _)) (Nat.le_trans HSZ.out (Grows.of_alloc _ _).size) (HO.out.alloc _) hgr6)
            have HO6 : Hid (OwnQ wc.heap.size v6 ((X.take (k + 1)).filter fun x => ofPK pe ki x.2) w6) := Lib.hid (by rw [HC2.out]; exact hown6)
            clear hown6 hgr6 G0 G1 G2 G3 G4 G5 G6 G7 G8
            go_wp2
            go_roundg (X.length - (k + 1))
            case measure => omega
            case rel => exact ⟨k + 1, by omega, by go_num, HO6, HB6⟩
          · have bq : (f.ki == ki) = false := beq_eq_false_iff_ne.2 hq
            have HC2 : Hid ((X.take (k + 1)).filter (fun x => ofPK pe ki x.2) = P) := Lib.hid (by rw [HC.out, if_neg (by simp [ofPK, hq])]; simp)
            clear hp hq
            go_wp2
            go_roundg (X.length - (k + 1))
            case measure => omega
            case rel => exact ⟨k + 1, by omega, by go_num, Lib.hid (by rw [HC2.out]; exact HO.out), HB⟩
        · have bp : (f.pe == pe) = false := beq_eq_false_iff_ne.2 hp
          have HC2 : Hid ((X.take (k + 1)).filter (fun x => ofPK pe ki x.2) = P) := Lib.hid (by rw [HC.out, if_neg (by simp [ofPK, hp])]; simp)
          clear hp
          go_wp2
          go_roundg (X.length - (k + 1))
          case measure => omega
          case rel => exact ⟨k + 1, by omega, by go_num, Lib.hid (by rw [HC2.out]; exact HO.out), HB⟩
      · obtain rfl : k = X.length := by omega
        rw [List.take_length] at HO
        go_wp2
        go_ret
        exact ⟨⟨_, rfl, by rw [HFR.out]; exact ownQ_down HO.out HBC.out.size⟩, bTrans HBC.out HB.out⟩
end Go.Proofs.YtdpejolpjhlibaaGreatDoor

namespace Go.Proofs.YtdpejolpjhlibaaGreatDoor
open Go.RowKit Go.Sort

/-- In a store that was told a Cancel speaks of an earlier fact that is none. -/
def Told (L : List Fa) : Prop := ∀ (i : Nat) (f : Fa), L[i]? = some f → f.ki = 18 → 1 ≤ f.nu ∧ f.nu ≤ i ∧ ∀ g, L[(f.nu - 1).toNat]? = some g → g.ki ≠ 18
theorem Told.nil : Told [] := fun i f h => by simp at h
theorem Told.taken {L : List Fa} (h : Told L) {i : Nat} {f : Fa} (hf : L[i]? = some f) (h18 : f.ki = 18) : takenB L ((i : Int) + 1) = false := by
  unfold takenB
  rw [List.any_eq_false]
  intro g hg
  obtain ⟨j, hj⟩ := List.getElem?_of_mem hg
  intro hc
  have hc2 := of_decide_eq_true hc
  obtain ⟨h1, h2, h3⟩ := h j g hj hc2.1
  refine h3 f ?_ h18
  rw [show (g.nu - 1).toNat = i by omega]
  exact hf
theorem Told.take {L : List Fa} (h : Told L) (n : Nat) : Told (L.take n) := by
  have hg : ∀ (i : Nat) (f : Fa), (L.take n)[i]? = some f → L[i]? = some f := fun i f hf => by
    rw [List.getElem?_take] at hf
    split at hf
    · exact hf
    · cases hf
  intro i f hf h18
  obtain ⟨h1, h2, h3⟩ := h i f (hg i f hf) h18
  exact ⟨h1, h2, fun g hg' => h3 g (hg _ g hg')⟩
theorem Told.add {L : List Fa} {f : Fa} (h : Told L) : Told (addL L f).1 := by
  rcases addL_or L f with ⟨e, _, he⟩ | ⟨he, _, hc, _, hcan⟩
  · rw [he]; exact h
  · rw [he]
    intro i g hg h18
    have hg : (L ++ [f])[i]? = some g := hg
    rcases Nat.lt_or_ge i L.length with hi | hi
    · rw [List.getElem?_append_left hi] at hg
      obtain ⟨h1, h2, h3⟩ := h i g hg h18
      refine ⟨h1, h2, fun g' hg' => h3 g' ?_⟩
      have hg' : (L ++ [f])[(g.nu - 1).toNat]? = some g' := hg'
      rwa [List.getElem?_append_left (by omega)] at hg'
    · rw [List.getElem?_append_right hi] at hg
      have hi2 : i = L.length := by
        have := (List.getElem?_eq_some_iff.1 hg).1
        simp at this; omega
      subst hi2
      have e : f = g := by simpa using hg
      subst e
      obtain ⟨h1, h2⟩ := chk_cancel hc h18
      unfold canE at hcan
      rw [if_neg (fun hn => hn h18)] at hcan
      by_cases hlt : (L.length : Int) < f.nu
      · rw [if_pos hlt] at hcan; omega
      · rw [if_neg hlt] at hcan
        refine ⟨h1, by omega, fun g' hg' => ?_⟩
        have hg' : (L ++ [f])[(f.nu - 1).toNat]? = some g' := hg'
        rw [List.getElem?_append_left (by omega)] at hg'
        intro hb
        rw [hg'] at hcan
        simp only [hb, if_true] at hcan
        omega
theorem told_tell : ∀ {l L : List Fa}, Told L → Told (tellL L l)
  | [], _, h => h
  | _ :: l, _, h => told_tell (l := l) h.add
theorem filt_force (L : List Fa) (pe ki : Int) (hk : ki ≠ 18) : ∀ k, k ≤ L.length → (chosen notCancel L k).filter (fun x => ofPK pe ki x.2) = chosen (ofPK pe ki) L k := by
  intro k
  induction k with
  | zero => exact fun _ => rfl
  | succ k ih =>
    intro hk2
    obtain ⟨f, hf⟩ : ∃ f, L[k]? = some f := ⟨_, List.getElem?_eq_getElem (by omega)⟩
    rw [chosen_succ _ hf, chosen_succ _ hf, List.filter_append, ih (by omega)]
    congr 1
    by_cases h1 : takenB L ((k : Int) + 1) = true
    · rw [if_pos h1, if_pos h1]; rfl
    · rw [if_neg h1, if_neg h1]
      by_cases h2 : ofPK pe ki f = true
      · have h3 : f.pe = pe ∧ f.ki = ki := of_decide_eq_true h2
        have h4 : notCancel f = true := bne_iff_ne.2 (by rw [h3.2]; exact hk)
        rw [if_pos h4, if_pos h2]
        simp [h2]
      · rw [if_neg h2]
        by_cases h4 : notCancel f = true
        · rw [if_pos h4]; simp [h2]
        · rw [if_neg h4]; rfl
theorem filt_all (L : List Fa) (pe : Int) (h : Told L) : ∀ k, k ≤ L.length → (allK L k).filter (fun x => ofPK pe 18 x.2) = chosen (ofPK pe 18) L k := by
  intro k
  induction k with
  | zero => exact fun _ => rfl
  | succ k ih =>
    intro hk2
    obtain ⟨f, hf⟩ : ∃ f, L[k]? = some f := ⟨_, List.getElem?_eq_getElem (by omega)⟩
    rw [allK_succ hf, chosen_succ _ hf, List.filter_append, ih (by omega)]
    congr 1
    by_cases h2 : ofPK pe 18 f = true
    · have h3 : f.pe = pe ∧ f.ki = 18 := of_decide_eq_true h2
      have h4 := h.taken hf h3.2
      rw [h4, if_neg (by decide), if_pos h2]
      simp [h2]
    · by_cases h1 : takenB L ((k : Int) + 1) = true
      · rw [if_pos h1]; simp [h2]
      · rw [if_neg h1, if_neg h2]; simp [h2]
theorem factsR_eq {L : List Fa} (h : Told L) (pe ki : Int) : factsR L pe ki = chosen (ofPK pe ki) L L.length := by
  unfold factsR fromL
  by_cases hk : ki = 18
  · subst hk
    rw [if_pos rfl]
    exact filt_all L pe h L.length (Nat.le_refl _)
  · rw [if_neg hk]
    exact filt_force L pe ki hk L.length (Nat.le_refl _)
end Go.Proofs.YtdpejolpjhlibaaGreatDoor

namespace Go.Proofs.YtdpejolpjhlibaaGreatDoor
open Go.RowKit Go.Sort

theorem OwnU.slU {B : Nat} {v : Value} {l : List Int} {w : World} (h : OwnU B v l w) : ∃ A cap, v = .slice A l.length cap ∧ l.length ≤ cap ∧ SlU w A l ∧ ∀ b off, A = some ⟨b, off, none⟩ → b < w.heap.size := by
  rcases h.shape with ⟨rfl, rfl⟩ | ⟨g, cap, rfl, hb, hg, hc, hcell⟩
  · exact ⟨none, 0, rfl, Nat.le_refl _, SlU.nil rfl, fun b off e => by cases e⟩
  · refine ⟨some ⟨g, 0, none⟩, cap, rfl, hc, fun _ => ⟨g, 0, rfl, fun i x hx => by rw [Nat.zero_add]; exact hcell i x hx⟩, fun b off e => ?_⟩
    injection e with e
    injection e with e
    omega

/-- A slice of numbers in memory that is there. -/
def RU (w : World) (A : Option Addr) (l : List Int) : Prop := SlU w A l ∧ ∀ b off, A = some ⟨b, off, none⟩ → b < w.heap.size
theorem RU.below {w w' : World} {A : Option Addr} {l : List Int} (h : RU w A l) (hb : Below w.heap.size w w') : RU w' A l :=
  ⟨h.1.below h.2 hb, fun b off e => Nat.lt_of_lt_of_le (h.2 b off e) hb.size⟩
theorem RU.open_ {w : World} {A : Option Addr} {l : List Int} (h : RU w A l) (hl : l ≠ []) : ∃ b off, A = some ⟨b, off, none⟩ ∧ b < w.heap.size ∧ ∀ (i : Nat) (x : Int), l[i]? = some x → w.cell? ⟨b, off + i, none⟩ = some (.int .u32 x) := by
  obtain ⟨b, off, e, hc⟩ := h.1 hl
  exact ⟨b, off, e, h.2 b off e, hc⟩
theorem OwnU.one {W : World} {h B : Nat} {x : Int} (hE : Bk h 28 #[.int .u32 x] W) (hb : B ≤ h) : OwnU B (.slice (some ⟨h, 0, none⟩) 1 1) [x] W :=
  ⟨rfl, .inr ⟨h, 1, #[.int .u32 x], rfl, hb, hE, Nat.le_refl _, by simp [maxLen], rfl, rfl⟩⟩
theorem OwnU.ru {B : Nat} {v : Value} {l : List Int} {w : World} (h : OwnU B v l w) : ∃ A cap, v = .slice A l.length cap ∧ RU w A l := by
  obtain ⟨A, cap, h1, _, h3, h4⟩ := h.slU
  exact ⟨A, cap, h1, h3, h4⟩

set_option maxHeartbeats 8000000 in
set_option maxRecDepth 100000 in
theorem la_view (L : List Fa) (A B : Option Addr) (ca cb : Nat) (w : World) (hn : L.length ≤ 4096) (ht : Told L) (hL : SlF w A L) (hM : SlF w B L) :
    Calls Tryz.prog 28 #[.agg #[.slice A L.length ca], .slice B L.length cb] w fun e w' => e = .returned (.bool true) ∧ Below w.heap.size w w' := by
  obtain ⟨sb, hsb⟩ : ∃ x, w.heap.size = x := ⟨_, rfl⟩
  obtain ⟨w2, hw2⟩ : ∃ x, w.alloc (.cells #[.slice A L.length ca] 41) = x := ⟨_, rfl⟩
  have HB2 : Hid (Below w.heap.size w w2) := Lib.hid (by rw [← hw2]; exact bAlloc _ _)
  have HK2 : Hid (Bk sb 41 #[.slice A L.length ca] w2) := Lib.hid (by rw [← hw2, ← hsb]; exact Bk.new _ _ _)
  have HKP : Hid (∀ W, Below w2.heap.size w2 W → W.cell? ⟨sb, 0, none⟩ = some (.slice A L.length ca)) := Lib.hid fun W hW => (show Bk sb 41 #[.slice A L.length ca] W from (hW.block sb HK2.out.lt).trans HK2.out).cell 0
  have HA2 : Hid (SlF w2 A L) := Lib.hid (hL.below HB2.out)
  have HM2 : Hid (SlF w2 B L) := Lib.hid (hM.below HB2.out)
  have HPE := Lib.hid (vi_Persons L A ca w2 hn HA2.out)
  have HPR : Hid (∀ W, Below w2.heap.size w2 W → Calls Tryz.prog 48 #[.slice B L.length cb] W fun e w' => (∃ v, e = .returned v ∧ OwnU W.heap.size v (personsL L) w') ∧ Below W.heap.size W w') := Lib.hid fun W hW => r9_Persons L B cb W hn (HM2.out.below hW)
  have HLEN : Hid (∀ W, Calls Tryz.prog 22 #[.agg #[.slice A L.length ca]] W fun e w' => e = .returned (.int .i64 L.length) ∧ Below W.heap.size W w') := Lib.hid fun W => vi_Len A L.length ca W
  have HFA : Hid (∀ (pe ki : Int) W, Below w2.heap.size w2 W → Calls Tryz.prog 27 #[.agg #[.slice A L.length ca], .int .u32 pe, .int .i64 ki] W fun e w' => (∃ v, e = .returned v ∧ Own encK 9 60 W.heap.size v (chosen (ofPK pe ki) L L.length) w') ∧ Below W.heap.size W w') := Lib.hid fun pe ki W hW => vi_Facts L A ca pe ki W hn (HA2.out.below hW)
  have HFR : Hid (∀ (pe ki : Int) W, Below w2.heap.size w2 W → Calls Tryz.prog 49 #[.slice B L.length cb, .int .u32 pe, .int .i64 ki] W fun e w' => (∃ v, e = .returned v ∧ OwnQ W.heap.size v (chosen (ofPK pe ki) L L.length) w') ∧ Below W.heap.size W w') := Lib.hid fun pe ki W hW => by
    have h := r9_Facts L B cb pe ki W hn (HM2.out.below hW)
    rw [factsR_eq ht] at h
    exact h
  have HQL : (personsL L).length ≤ 4096 := by
    have h1 := foldU_len (pesL (forceL L)) []
    have h2 := pesL_len (forceL L)
    have h3 := forceL_len L
    simp only [List.length_nil] at h1
    have h4 : (personsL L).length ≤ 0 + (pesL (forceL L)).length := h1
    omega
  obtain ⟨Q, hQ⟩ : ∃ Q, personsL L = Q := ⟨_, rfl⟩
  rw [hQ] at HPE HPR HQL
  clear hQ hL hM ht
  go_enter Tryz.func28, Tryz.ntmps28
  go_upto_region 1 with fail
  clear hsb hw2
  have S0 := HKP.out w2 (Below.refl _ _)
  go_wp2_with fail
  refine HPE.out.mono ?_
  rintro e w3 ⟨⟨v3, rfl, ho3⟩, hb3⟩
  have HB3 : Hid (Below w2.heap.size w2 w3) := Lib.hid hb3
  have HO3 := Lib.hid ho3
  clear ho3 hb3 HPE S0
  go_wp2_with fail
  refine (HPR.out _ HB3.out).mono ?_
  rintro e w4 ⟨⟨v4, rfl, ho4⟩, hb4⟩
  have HB4 : Hid (Below w2.heap.size w2 w4) := Lib.hid (bTrans HB3.out hb4)
  obtain ⟨A3, c3, rfl, hr3⟩ := HO3.out.ru
  obtain ⟨A4, c4, rfl, hr4⟩ := ho4.ru
  have HR3 : Hid (RU w4 A3 Q) := Lib.hid (hr3.below hb4)
  have HR4 : Hid (RU w4 A4 Q) := Lib.hid hr4
  have S4 := HKP.out w4 HB4.out
  clear ho4 hb4 HPR hr3 hr4 HO3 HB3
  go_wp2_with fail
  refine (HLEN.out _).mono ?_
  rintro e w5 ⟨rfl, hb5⟩
  have HB5 : Hid (Below w2.heap.size w2 w5) := Lib.hid (bTrans HB4.out hb5)
  have HR5 : Hid (RU w5 A3 Q) := Lib.hid (HR3.out.below hb5)
  have HQ5 : Hid (RU w5 A4 Q) := Lib.hid (HR4.out.below hb5)
  clear hb5 HR3 HR4 S4 HB4 HLEN
  go_wp2
  go_loopg [29] Q.length (fun n iv wr => ∃ k : Nat, k + n = Q.length ∧ iv = .int .i64 k ∧ Hid (Below w5.heap.size w5 wr))
  case atStart => exact ⟨0, by omega, rfl, Lib.hid (Below.refl _ _)⟩
  case round =>
    obtain ⟨k, hk, rfl, HB⟩ := hrel
    by_cases hlt : k < Q.length
    · obtain ⟨x, hx⟩ : ∃ x, Q[k]? = some x := ⟨_, List.getElem?_eq_getElem hlt⟩
      obtain ⟨b1, o1, rfl, _, hc1⟩ := (HR5.out.below HB.out).open_ (by intro h; simp [h] at hlt)
      obtain ⟨b2, o2, rfl, _, hc2⟩ := (HQ5.out.below HB.out).open_ (by intro h; simp [h] at hlt)
      have C1 := hc1 k x hx
      have C2 := hc2 k x hx
      have hlt2 : (k : Int) < (Q.length : Int) := by omega
      clear hc1 hc2 hx
      go_wp2_with fail
      go_region
      all_goals go_wp2
      all_goals go_roundg (Q.length - (k + 1))
      case measure => omega
      case rel => exact ⟨k + 1, by omega, by go_num, Lib.hid (bTrans HB.out (bDrew _))⟩
    · obtain rfl : k = Q.length := by omega
      have HB6 : Hid (Below w2.heap.size w2 wr) := Lib.hid (bTrans HB5.out HB.out)
      have HQ6 := Lib.hid (HQ5.out.below HB.out)
      have HE0 : Hid (OwnU wr.heap.size (.slice (some ⟨wr.heap.size, 0, none⟩) 1 1) [0] (wr.alloc (.cells #[.int .u32 0] 28))) := Lib.hid (OwnU.one (Bk.new _ _ _) (Nat.le_refl _))
      have HE1 : Hid (RU (wr.alloc (.cells #[.int .u32 0] 28)) A4 Q) := Lib.hid (HQ6.out.below (bAlloc _ _))
      have HLN : Hid (Q.length ≤ 4096) := Lib.hid HQL
      go_wp2_with (at_builtin; refine wp_appU rfl _ _ rfl (v := .slice (some ⟨wr.heap.size, 0, none⟩) 1 1) (l := [0]) (m := Q) (n := Q.length) (A := A4) (B := wr.heap.size) rfl rfl rfl HE0.out HE1.out.1 (by have := HLN.out; simp; omega) (Grows.of_alloc _ _).size ?_)
      intro v6 w6 ho6 hg6
      have HO6 : Hid (OwnU wr.heap.size v6 ([0] ++ Q) w6) := Lib.hid ho6
      have HX6 : Hid (Below wr.heap.size wr w6) := Lib.hid (belowU (bAlloc wr _) (Grows.of_alloc _ _).size HE0.out hg6)
      clear ho6 hg6 HE0 HE1
      go_wp2_with (at_builtin; refine wp_appU rfl _ _ rfl (v := v6) (l := [0] ++ Q) (m := [4294967295]) (n := 1) (A := some ⟨w6.heap.size, 0, none⟩) (B := wr.heap.size) rfl rfl rfl (HO6.out.alloc _) (SlU.one (Bk.new w6 _ _)) (by have := HLN.out; simp; omega) (Nat.le_trans HX6.out.size (Grows.of_alloc _ _).size) ?_)
      intro v7 w7 ho7 hg7
      have HX7 : Hid (Below wr.heap.size wr w7) := Lib.hid (belowU (bTrans HX6.out (bAlloc w6 _)) (Nat.le_trans HX6.out.size (Grows.of_alloc _ _).size) (HO6.out.alloc _) hg7)
      have HB7 : Hid (Below w2.heap.size w2 w7) := Lib.hid (bTrans HB6.out HX7.out)
      obtain ⟨PL, hPL⟩ : ∃ z, [0] ++ Q ++ [4294967295] = z := ⟨_, rfl⟩
      have ho7b : OwnU wr.heap.size v7 PL w7 := by rw [← hPL]; exact ho7
      obtain ⟨A7, c7, rfl, hr7⟩ := ho7b.ru
      have HR7 := Lib.hid hr7
      have hpl : PL.length ≤ 5000 := by rw [← hPL]; simp; omega
      clear ho7 ho7b hg7 hPL hr7 HX6 HX7 HO6 HLN HQ6 HB6 HB HQ5 HR5
      go_wp2
      go_loopg [48] PL.length (fun n iv wr => ∃ k : Nat, k + n = PL.length ∧ iv = .int .i64 k ∧ Hid (Below w7.heap.size w7 wr))
      case atStart => exact ⟨0, by omega, rfl, Lib.hid (Below.refl _ _)⟩
      case round =>
        obtain ⟨k, hk, rfl, HB⟩ := hrel
        by_cases hlt : k < PL.length
        · obtain ⟨x, hx⟩ : ∃ x, PL[k]? = some x := ⟨_, List.getElem?_eq_getElem hlt⟩
          obtain ⟨b1, o1, rfl, _, hc1⟩ := (HR7.out.below HB.out).open_ (by intro h; simp [h] at hlt)
          have C1 := hc1 k x hx
          have hlt2 : (k : Int) < (PL.length : Int) := by omega
          clear hc1 hx
          go_wp2
          clear C1
          go_loopw [52] (fun jv wr => ∃ j : Nat, jv = .int .i64 j ∧ j ≤ 20 ∧ Hid (Below w7.heap.size w7 wr)) (fun jv _ => 20 - (intOf jv).toNat)
          case atStart => exact ⟨0, rfl, by omega, HB⟩
          case round =>
            clear HB
            obtain ⟨j, rfl, hj, HB⟩ := hrel
            by_cases hj2 : j < 20
            · have HBA : Hid (Below w2.heap.size w2 wr) := Lib.hid (bTrans HB7.out HB.out)
              have HF1 := Lib.hid (HFA.out x (j : Int) _ HBA.out)
              have S := HKP.out _ HBA.out
              have HKL : (chosen (ofPK x (j : Int)) L L.length).length ≤ 1000000 := by have := chosen_len (ofPK x (j : Int)) L L.length; omega
              obtain ⟨K, hK⟩ : ∃ K, chosen (ofPK x (j : Int)) L L.length = K := ⟨_, rfl⟩
              have HF2 : Hid (∀ W, Below w2.heap.size w2 W → Calls Tryz.prog 49 #[.slice B L.length cb, .int .u32 x, .int .i64 j] W fun e w' => (∃ v, e = .returned v ∧ OwnQ W.heap.size v K w') ∧ Below W.heap.size W w') := Lib.hid (by rw [← hK]; exact HFR.out x (j : Int))
              rw [hK] at HF1 HKL
              clear hK
              go_wp2_with fail
              refine HF1.out.mono ?_
              rintro e w8 ⟨⟨v8, rfl, ho8⟩, hb8⟩
              obtain ⟨A8, c8, rfl, _, hs8⟩ := Own.sl ho8
              have HX8 : Hid (Below w7.heap.size w7 w8) := Lib.hid (bTrans HB.out hb8)
              have HXA : Hid (Below w2.heap.size w2 w8) := Lib.hid (bTrans HBA.out hb8)
              have HS8 : Hid (SlK w8 A8 K) := Lib.hid hs8
              clear ho8 hb8 hs8 HF1 S HBA
              go_wp2_with fail
              refine (HF2.out _ HXA.out).mono ?_
              rintro e w9 ⟨⟨v9, rfl, ho9⟩, hb9⟩
              obtain ⟨A9, c9, rfl, _, hs9⟩ := OwnQ.sl ho9
              have HX9 : Hid (Below w7.heap.size w7 w9) := Lib.hid (bTrans HX8.out hb9)
              have HSA := Lib.hid (la_same K A8 A9 c8 c9 w9 HKL (HS8.out.below hb9) hs9)
              clear ho9 hb9 hs9 HF2 HX8 HXA HS8
              go_wp2_with fail
              refine HSA.out.mono ?_
              rintro e w10 ⟨rfl, hb10⟩
              have HX10 : Hid (Below w7.heap.size w7 w10) := Lib.hid (bTrans HX9.out hb10)
              clear hb10 HSA HX9
              go_wp2
              exact ⟨⟨j + 1, by go_num, by omega, HX10⟩, by simp [intOf]; omega⟩
            · obtain rfl : j = 20 := by omega
              go_wp2
              go_roundg (PL.length - (k + 1))
              case measure => omega
              case rel => exact ⟨k + 1, by omega, by go_num, HB⟩
        · obtain rfl : k = PL.length := by omega
          go_wp2
          go_ret
          exact ⟨rfl, bTrans HB2.out (bTrans HB7.out HB.out)⟩
end Go.Proofs.YtdpejolpjhlibaaGreatDoor
