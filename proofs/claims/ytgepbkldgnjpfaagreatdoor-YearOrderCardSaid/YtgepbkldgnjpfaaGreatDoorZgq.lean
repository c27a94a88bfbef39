/- Out of: Yi1 Yi2 Yi3 Yi4. -/
import Derived.Test.YtgepbkldgnjpfaaGreatDoorZgp
import Derived.Deep.RegionHeld3
/- year: put. -/
namespace Go.Proofs.YtgepbkldgnjpfaaGreatDoor
open Go.RowKit Go.Sort Go.BigFrame Go.Maps Go.WideMaps

/-- What lay stays, but two blocks. -/
structure Kep (pb lb : Nat) (w w' : World) : Prop where
  os : w'.os = w.os
  tape : w'.tape = w.tape
  output : w'.output = w.output
  size : w.heap.size ≤ w'.heap.size
  block : ∀ i, i < w.heap.size → i ≠ pb → i ≠ lb → w'.heap[i]? = w.heap[i]?
section
variable {pb lb : Nat} {a b c : World}
theorem Kep.refl (w : World) : Kep pb lb w w := ⟨rfl, rfl, rfl, Nat.le_refl _, fun _ _ _ _ => rfl⟩
theorem Kep.trans (h : Kep pb lb a b) (k : Kep pb lb b c) : Kep pb lb a c := ⟨k.os.trans h.os, k.tape.trans h.tape, k.output.trans h.output, Nat.le_trans h.size k.size, fun i hi h1 h2 => (k.block i (Nat.lt_of_lt_of_le hi h.size) h1 h2).trans (h.block i hi h1 h2)⟩
theorem Kep.of_below (h : Below a.heap.size a b) : Kep pb lb a b := ⟨h.os, h.tape, h.output, h.size, fun i hi _ _ => h.block i hi⟩
theorem Kep.of_lb (h : a.grownBy b (some lb)) : Kep pb lb a b := ⟨h.os, h.tape, h.output, h.size, fun i hi _ h2 => h.block i hi (by simpa using h2)⟩
theorem Kep.set (w : World) (o : Nat) (v : Value) : Kep pb lb w (w.setCell ⟨pb, o, none⟩ v) := ⟨rfl, rfl, rfl, by simp [World.setCell], fun i _ h1 _ => Below.heap_setCell _ _ _ _ h1⟩
theorem Kep.below (h : Kep pb lb a b) {B : Nat} (h1 : B ≤ pb) (h2 : B ≤ lb) (h3 : B ≤ a.heap.size) : Below B a b := ⟨h.os, h.tape, h.output, h.size, fun i hi => h.block i (by omega) (by omega) (by omega)⟩
theorem Kep.bk (h : Kep pb lb a b) {g : Nat} {t : TypeId} {cs : Array Value} (k : Bk g t cs a) (h1 : g ≠ pb) (h2 : g ≠ lb) : Bk g t cs b := (h.block g k.lt h1 h2).trans k
theorem Kep.map {κ β : Type} {K : TypeId} {kl : κ → Lit} {enc : β → Value} {m : Ass κ β} {n : Nat} {v : Value} (h : Kep pb lb a b) (k : MapV K kl enc m n v a) (h1 : v ≠ .map (some pb)) (h2 : v ≠ .map (some lb)) : MapV K kl enc m n v b := by
  rcases k with k | ⟨g, rfl, es, ck, hb, F, hs, hD⟩
  · exact Or.inl k
  · exact Or.inr ⟨g, rfl, es, ck, (h.block g (Array.getElem?_eq_some_iff.1 hb).1 (fun e => h1 (by rw [e])) (fun e => h2 (by rw [e]))).trans hb, F, hs, hD⟩
end
/-- A step that is under way. -/
structure Sg where
  S : Ste
  V : StA
  M : Mon
  A : MoA
  lb : Nat
  g : Int
  b : Int
  l : Int
def spC (x : Sg) : Array Value := #[.int .i64 x.S.y, .int .i64 x.S.i, .int .i64 x.S.o, x.V.be, x.V.so, .int .i64 x.S.tb, .int .i64 x.S.tt, x.V.od, .int .i64 x.M.y, .int .i64 x.M.i, .int .i64 x.M.o, .slice x.A.gr.1 x.M.gr.length x.A.gr.2, .slice x.A.be.1 x.M.be.length x.A.be.2, .slice x.A.af.1 x.M.af.length x.A.af.2, .slice x.A.li.1 x.M.li.length x.A.li.2, .slice x.A.sc.1 x.M.sc.length x.A.sc.2, .int .i64 x.M.al, .int .i64 x.M.ex, .slice x.A.ba.1 x.M.ba.length x.A.ba.2, .slice x.A.od.1 x.M.od.length x.A.od.2, .map (some x.lb), .int .i64 x.g, .int .i64 x.b, .int .i64 x.l]
abbrev BkS (pb : Nat) (x : Sg) (w : World) : Prop := Bk pb 95 (spC x) w
theorem BkS.below {pb : Nat} {x : Sg} {w w' : World} (h : BkS pb x w) (hb : Below w.heap.size w w') : BkS pb x w' := bkBel h hb
/-- Lines more, of a part. -/
def addP (part : Int) : Ass Kp Int → List It → Ass Kp Int
  | m, [] => m
  | m, x :: r => if h : (0 ≤ part ∧ part ≤ 6) ∧ x.1.size ≤ 32 then addP part ((⟨(part, x.1), h⟩, IntKind.i64.wrap (gP m ⟨(part, x.1), h⟩ + x.2)) :: m) r else addP part m r
theorem addP_cons {part : Int} {m : Ass Kp Int} {x : It} {r : List It} (h : (0 ≤ part ∧ part ≤ 6) ∧ x.1.size ≤ 32) : addP part m (x :: r) = addP part ((⟨(part, x.1), h⟩, IntKind.i64.wrap (gP m ⟨(part, x.1), h⟩ + x.2)) :: m) r := by
  unfold addP
  rw [dif_pos h]
  cases r <;> rfl
/-- What is left behind items of a part. -/
def leftP (part : Int) : Int → List It → Int
  | a, [] => a
  | a, x :: r => leftP part (if part = 0 ∨ part = 6 then a else IntKind.i64.wrap (a - x.2)) r
theorem mapNeCells {κ β : Type} {K : TypeId} {kl : κ → Lit} {enc : β → Value} {m : Ass κ β} {n lb pb : Nat} {t : TypeId} {cs : Array Value} {w : World} (h : w.ownsMap Tryz.prog K heldV lb n (dA kl enc m)) (k : Bk pb t cs w) : pb ≠ lb := by
  rintro rfl
  obtain ⟨es, ck, hb, _⟩ := h
  unfold Bk at k
  rw [hb] at k
  cases k
set_option maxHeartbeats 4000000 in
set_option maxRecDepth 100000 in
theorem yr_put (part : Int) (x : Sg) (pb : Nat) (m0 : Ass Kp Int) (k0 : Nat) (l : List It) (A : Option Addr) (cap : Nat) (w : World) (hp : 0 ≤ part ∧ part ≤ 6) (hn : l.length ≤ 1000000) (hsz : ∀ i ∈ l, i.1.size ≤ 32) (hS : ∀ W, Kep pb x.lb w W → Sl encI 2 W W.heap.size A l) (hb : BkS pb x w) (hm : OmP m0 k0 x.lb w) (hk : k0 ≤ 1000000000) :
    Calls Tryz.prog 57 #[.pointer (some ⟨pb, 0, none⟩), .int .i64 part, .slice A l.length cap] w fun e w' => e = .returned (.tuple #[]) ∧ BkS pb { x with l := leftP part x.l l } w' ∧ OmP (addP part m0 l) (k0 + l.length) x.lb w' ∧ Kep pb x.lb w w' := by
  obtain ⟨R, hR⟩ : ∃ R, addP part m0 l = R := ⟨_, rfl⟩
  obtain ⟨L, hL⟩ : ∃ R, leftP part x.l l = R := ⟨_, rfl⟩
  rw [hR, hL]
  have HR := Lib.hid hR
  have HL := Lib.hid hL
  have HS := Lib.hid hS
  have HSZ := Lib.hid hsz
  have HP := Lib.hid hp
  have HK0 := Lib.hid hk
  have HB := Lib.hid hb
  have HM := Lib.hid hm
  obtain ⟨S, V, M, MA, lb, g, bs, lf0⟩ := x
  dsimp only at HR HL HS HB HM ⊢
  have HNE : Hid (pb ≠ lb) := Lib.hid (mapNeCells HM.out HB.out)
  clear hR hL hS hsz hp hk hb hm
  go_enter Tryz.func57, Tryz.ntmps57
  go_wp2
  go_loopg [10] l.length (fun kk iv wr => ∃ (n : Nat) (m : Ass Kp Int) (lf : Int), n + kk = l.length ∧ iv = .int .i64 n ∧ Hid (addP part m (l.drop n) = R) ∧ Hid (leftP part lf (l.drop n) = L) ∧ Hid (BkS pb ⟨S, V, M, MA, lb, g, bs, lf⟩ wr) ∧ Hid (OmP m (k0 + n) lb wr) ∧ Hid (Kep pb lb w wr))
  case atStart => exact ⟨0, m0, lf0, Nat.zero_add _, rfl, HR, HL, HB, HM, Lib.hid (Kep.refl _)⟩
  case round =>
    obtain ⟨n, m, lf, hn1, rfl, HA, HLA, HBW, HMW, HKW⟩ := hrel
    by_cases hlt : n < l.length
    · obtain ⟨b, off, rfl, hB, hc⟩ := HS.out wr HKW.out (by intro h; simp [h] at hlt)
      obtain ⟨⟨co, c⟩, hx⟩ : ∃ x, l[n]? = some x := ⟨_, List.getElem?_eq_getElem hlt⟩
      have C0 : wr.cell? ⟨b, off + n * 2, none⟩ = some (.string co) := by simpa using hc n _ hx 0 _ rfl
      have C1 : wr.cell? ⟨b, off + n * 2 + 1, none⟩ = some (.int .i64 c) := hc n _ hx 1 _ rfl
      have hdrop : l.drop n = (co, c) :: l.drop (n + 1) := by
        rw [List.drop_eq_getElem_cons hlt]
        congr 1
        have := List.getElem?_eq_getElem hlt
        rw [hx] at this
        exact (Option.some.inj this).symm
      have hco : (0 ≤ part ∧ part ≤ 6) ∧ co.size ≤ 32 := ⟨HP.out, HSZ.out _ (List.mem_of_getElem? hx)⟩
      obtain ⟨s1, hs1⟩ : ∃ y, IntKind.i64.wrap (gP m ⟨(part, co), hco⟩ + c) = y := ⟨_, rfl⟩
      have HD : Hid (addP part ((⟨(part, co), hco⟩, s1) :: m) (l.drop (n + 1)) = R) := Lib.hid (by rw [← HA.out, hdrop, addP_cons hco, hs1])
      have HLD : Hid (leftP part (if part = 0 ∨ part = 6 then lf else IntKind.i64.wrap (lf - c)) (l.drop (n + 1)) = L) := Lib.hid (by rw [← HLA.out, hdrop]; rfl)
      obtain ⟨fb, hfb⟩ : ∃ y, wr.heap.size = y := ⟨_, rfl⟩
      obtain ⟨wa, hwa⟩ : ∃ y, wr.alloc (.cells #[.string co, .int .i64 c] 65) = y := ⟨_, rfl⟩
      have hf0 : Bk fb 65 #[.string co, .int .i64 c] wa := by rw [← hwa, ← hfb]; exact Bk.new _ _ _
      have hba := HBW.out.below (by rw [← hwa]; exact bAlloc wr _ : Below wr.heap.size wr wa)
      have hma : OmP m (k0 + n) lb wa := by rw [← hwa]; exact HMW.out.alloc _
      obtain ⟨wd, hwd⟩ : ∃ y, wa.drew = y := ⟨_, rfl⟩
      have hfd : Bk fb 65 #[.string co, .int .i64 c] wd := by rw [← hwd]; exact hf0
      have hbd : BkS pb ⟨S, V, M, MA, lb, g, bs, lf⟩ wd := by rw [← hwd]; exact hba
      have hmd : OmP m (k0 + n) lb wd := by rw [← hwd]; exact hma.drew
      obtain ⟨v0, st, wm, wz, hent, hlook, hstore, hg1, hsz1, hom, hg2, hsz2⟩ := entryP m (k0 + n) lb wd hmd (by have := HK0.out; unfold maxLen; omega) ⟨(part, co), hco⟩ s1
      have hlm := entryLook m (k0 + n) lb wd hmd (by have := HK0.out; unfold maxLen; omega) ⟨(part, co), hco⟩ hent
      have hfm := hfd.grownBy hg1 (by intro e; injection e with e; exact (mapNeCells hmd hfd) e)
      have hbm := Bk.grownBy hbd hg1 (by intro e; injection e with e; exact HNE.out e)
      have hfz := hfd.grownBy hg2 (by intro e; injection e with e; exact (mapNeCells hmd hfd) e)
      have hbz := Bk.grownBy hbd hg2 (by intro e; injection e with e; exact HNE.out e)
      obtain ⟨old, hold⟩ : ∃ y, gP m ⟨(part, co), hco⟩ = y := ⟨_, rfl⟩
      rw [hold] at hlook hlm hs1
      have P0 : wd.cell? ⟨pb, 20, none⟩ = some (.map (some lb)) := hbd.cell 20
      have F0 : wd.cell? ⟨fb, 0, none⟩ = some (.string co) := hfd.cell 0
      have F1 : wd.cell? ⟨fb, 1, none⟩ = some (.int .i64 c) := hfd.cell 1
      have Q0 : wm.cell? ⟨pb, 20, none⟩ = some (.map (some lb)) := hbm.cell 20
      have G0 : wm.cell? ⟨fb, 0, none⟩ = some (.string co) := hfm.cell 0
      have G1 : wm.cell? ⟨fb, 1, none⟩ = some (.int .i64 c) := hfm.cell 1
      have P5 : wa.cell? ⟨pb, 20, none⟩ = some (.map (some lb)) := hba.cell 20
      have HWZ := Lib.hid (And.intro hfz (And.intro hbz (And.intro hom hg2)))
      have HNA : Hid (wr.heap.size ≤ wa.heap.size) := Lib.hid (by rw [← hwa]; exact (Grows.of_alloc _ _).size)
      have HKA : Hid (Kep pb lb w wz) := Lib.hid (HKW.out.trans ((Kep.of_below (by rw [← hwa]; exact bAlloc wr _ : Below wr.heap.size wr wa)).trans ((show Kep pb lb wa wd by rw [← hwd]; exact Kep.of_below (bDrew wa)).trans (Kep.of_lb hg2))))
      have HWF := Lib.hid (And.intro hfb hwa)
      simp only [keyV] at hent hlook hlm
      clear hc hx hdrop hfm hbm hfz hbz hom hg1 hg2 hsz1 hsz2 hf0 hba hma hfd hbd hmd hfb hwa HA HLA HBW HMW HKW hold
      go_upto_region 3 with fail
      rw [HWF.out.1, HWF.out.2]
      clear HWF C0 C1
      go_wp2_with fail
      go_region
      all_goals
        clear P0 F0 F1 Q0 G0 G1 P5 hent hlook hlm hstore
        by_cases h0 : part = 0
        · have n0 : (part != 0) = false := by rw [h0]; rfl
          have HLE : Hid (leftP part lf (l.drop (n + 1)) = L) := Lib.hid (by have := HLD.out; rw [if_pos (Or.inl h0)] at this; exact this)
          clear h0
          go_wp2
          go_roundg (l.length - (n + 1))
          case measure => omega
          case rel => exact ⟨n + 1, _, lf, by omega, by go_num, HD, HLE, Lib.hid HWZ.out.2.1, Lib.hid HWZ.out.2.2.1, HKA⟩
        by_cases h6 : part = 6
        · have n0 : (part != 0) = true := by rw [h6]; rfl
          have n6 : (part != 6) = false := by rw [h6]; rfl
          have HLE : Hid (leftP part lf (l.drop (n + 1)) = L) := Lib.hid (by have := HLD.out; rw [if_pos (Or.inr h6)] at this; exact this)
          clear h0 h6
          go_wp2
          go_roundg (l.length - (n + 1))
          case measure => omega
          case rel => exact ⟨n + 1, _, lf, by omega, by go_num, HD, HLE, Lib.hid HWZ.out.2.1, Lib.hid HWZ.out.2.2.1, HKA⟩
        have n0 : (part != 0) = true := by simpa using h0
        have n6 : (part != 6) = true := by simpa using h6
        obtain ⟨l2, hl2⟩ : ∃ y, IntKind.i64.wrap (lf - c) = y := ⟨_, rfl⟩
        have hl2b : wrap64 (lf - c) = l2 := by rw [← IntWalk.i64_left]; exact hl2
        have HLE : Hid (leftP part l2 (l.drop (n + 1)) = L) := Lib.hid (by have := HLD.out; rw [if_neg (by omega), hl2] at this; exact this)
        obtain ⟨we, hwe⟩ : ∃ y, wz.drew = y := ⟨_, rfl⟩
        have hbe : BkS pb ⟨S, V, M, MA, lb, g, bs, lf⟩ we := by rw [← hwe]; exact HWZ.out.2.1
        have hfe : Bk fb 65 #[.string co, .int .i64 c] we := by rw [← hwe]; exact HWZ.out.1
        have hoe : OmP ((⟨(part, co), hco⟩, s1) :: m) (k0 + n + 1) lb we := by rw [← hwe]; exact HWZ.out.2.2.1.drew
        have hke : Kep pb lb w we := by rw [← hwe]; exact HKA.out.trans (Kep.of_below (bDrew wz))
        obtain ⟨wy, hwy⟩ : ∃ y, we.setCell ⟨pb, 23, none⟩ (.int .i64 l2) = y := ⟨_, rfl⟩
        have HBY : Hid (BkS pb ⟨S, V, M, MA, lb, g, bs, l2⟩ wy) := Lib.hid (by rw [← hwy]; exact hbe.set_ 23 (.int .i64 l2))
        have HOY : Hid (OmP ((⟨(part, co), hco⟩, s1) :: m) (k0 + (n + 1)) lb wy) := Lib.hid (by rw [← hwy]; exact hoe.setCell (a := ⟨pb, 23, none⟩) (Ne.symm HNE.out) _)
        have HKY : Hid (Kep pb lb w wy) := Lib.hid (by rw [← hwy]; exact hke.trans (Kep.set _ _ _))
        have R0 : we.cell? ⟨pb, 23, none⟩ = some (.int .i64 lf) := hbe.cell 23
        have R1 : we.frozen? ⟨pb, 23, none⟩ = false := hbe.frozen 23
        have R2 : we.cell? ⟨fb, 1, none⟩ = some (.int .i64 c) := hfe.cell 1
        have R3 : wz.cell? ⟨pb, 23, none⟩ = some (.int .i64 lf) := Bk.cell HWZ.out.2.1 23
        have R4 : wz.cell? ⟨fb, 1, none⟩ = some (.int .i64 c) := HWZ.out.1.cell 1
        clear h0 h6 hbe hfe hoe hke HLD
        go_wp2_with fail
        go_region
        all_goals
          go_wp2
          go_roundg (l.length - (n + 1))
          case measure => omega
          case rel => exact ⟨n + 1, _, l2, by omega, by go_num, HD, HLE, HBY, HOY, HKY⟩
    · obtain rfl : n = l.length := by omega
      go_wp2
      go_end0
      have h := HA.out
      have h2 := HLA.out
      rw [List.drop_length] at h h2
      refine ⟨rfl, ?_, ?_, HKW.out⟩
      · rw [← h2]; exact HBW.out
      · rw [← h]; exact HMW.out
end Go.Proofs.YtgepbkldgnjpfaaGreatDoor

/- year: what a step's parts do, in plain; what holds in memory while a step is under way. -/
namespace Go.Proofs.YtgepbkldgnjpfaaGreatDoor
open Go.RowKit Go.Sort Go.BigFrame Go.Maps Go.WideMaps

/-- What a step under way holds. -/
structure Sd where
  S : Ste
  ln : Ass Kp Int
  g : Int
  b : Int
  l : Int
def sgO (d : Sd) (V : StA) (M : Mon) (A : MoA) (lb : Nat) : Sg := ⟨d.S, V, M, A, lb, d.g, d.b, d.l⟩
def taxS : ByteArray := ⟨#[116, 97, 120]⟩
def pf1 (M : Mon) (d : Sd) : Sd × Int := ({ d with g := (sumC 0 (M.gr.map Prod.snd)).1, b := (sumC 0 (M.gr.map Prod.snd)).1, l := leftP 0 (sumC 0 (M.gr.map Prod.snd)).1 M.gr, ln := addP 0 d.ln M.gr }, (sumC 0 (M.gr.map Prod.snd)).2)
def pf2 (M : Mon) (d : Sd) : Sd × Int := ({ d with S := { d.S with be := (takeL d.g d.S.be M.be M.li).2.1 }, ln := addP 1 d.ln (takeL d.g d.S.be M.be M.li).1, l := leftP 1 d.l (takeL d.g d.S.be M.be M.li).1, b := leftP 1 d.b (takeL d.g d.S.be M.be M.li).1 }, (takeL d.g d.S.be M.be M.li).2.2)
def pf3 (M : Mon) (d : Sd) : Sd × Int := ({ d with S := { d.S with so := (socL d.S.so d.g M.sc).1 }, ln := addP 6 (addP 2 d.ln (socL d.S.so d.g M.sc).2.1) (socL d.S.so d.g M.sc).2.2.1, l := leftP 6 (leftP 2 d.l (socL d.S.so d.g M.sc).2.1) (socL d.S.so d.g M.sc).2.2.1 }, (socL d.S.so d.g M.sc).2.2.2)
def pf4 (M : Mon) (d : Sd) : Sd × Int := ({ d with S := { d.S with tb := (Tx.stepV d.S.tb d.S.tt d.b M.i M.o M.al M.ex M.ba).1.1, tt := (Tx.stepV d.S.tb d.S.tt d.b M.i M.o M.al M.ex M.ba).1.2 }, ln := addP 3 d.ln [(taxS, (Tx.stepV d.S.tb d.S.tt d.b M.i M.o M.al M.ex M.ba).2.1)], l := leftP 3 d.l [(taxS, (Tx.stepV d.S.tb d.S.tt d.b M.i M.o M.al M.ex M.ba).2.1)] }, (Tx.stepV d.S.tb d.S.tt d.b M.i M.o M.al M.ex M.ba).2.2)
def pf5 (M : Mon) (d : Sd) : Sd × Int := ({ d with ln := addP 4 d.ln (afterL d.l M.af).1, l := leftP 4 d.l (afterL d.l M.af).1 }, 0)
def pf6 (M : Mon) (d : Sd) : Sd × Int := ({ d with S := { d.S with od := (attL d.l d.S.od M.od).2.1 }, ln := addP 5 d.ln (attL d.l d.S.od M.od).1, l := leftP 5 d.l (attL d.l d.S.od M.od).1 }, (attL d.l d.S.od M.od).2.2)
theorem leftP_rng {part : Int} : ∀ {l : List It} {a : Int}, (-9223372036854775808 ≤ a ∧ a ≤ 9223372036854775807) → -9223372036854775808 ≤ leftP part a l ∧ leftP part a l ≤ 9223372036854775807
  | [], _, h => h
  | x :: r, a, h => by
    show -9223372036854775808 ≤ leftP part (if part = 0 ∨ part = 6 then a else IntKind.i64.wrap (a - x.2)) r ∧ leftP part (if part = 0 ∨ part = 6 then a else IntKind.i64.wrap (a - x.2)) r ≤ 9223372036854775807
    refine leftP_rng ?_
    split
    · exact h
    · rw [IntKind.wrap_i64]; omega
theorem sumC_fit : ∀ (l : List Int) (a : Int), fitB a = true → fitB (sumC a l).1 = true
  | [], a, h => h
  | x :: r, a, h => by
    unfold sumC
    split
    · refine sumC_fit r _ ?_
      unfold toldR
      split
      · rfl
      split
      · rfl
      · rename_i h3; simpa using h3
    · rfl
/-- What holds in memory while a step is under way. -/
structure SpW (w0 : World) (pb lb : Nat) (M : Mon) (A : MoA) (d : Sd) (V : StA) (n k : Nat) (w : World) : Prop where
  be : Below w0.heap.size w0 w
  bk : BkS pb (sgO d V M A lb) w
  om : OmP d.ln k lb w
  mb : MpC d.S.be n V.be w
  ms : MpS d.S.so n V.so w
  mo : MpC d.S.od n V.od w
  ne : V.be ≠ .map (some lb) ∧ V.so ≠ .map (some lb) ∧ V.od ≠ .map (some lb)
  fr : w0.heap.size ≤ pb ∧ w0.heap.size ≤ lb
  lr : (-9223372036854775808 ≤ d.l ∧ d.l ≤ 9223372036854775807) ∧ (-9223372036854775808 ≤ d.b ∧ d.b ≤ 9223372036854775807)
section
variable {w0 : World} {pb lb : Nat} {M : Mon} {A : MoA} {d : Sd} {V : StA} {n k : Nat} {w w' : World}
theorem SpW.below (h : SpW w0 pb lb M A d V n k w) (hb : Below w.heap.size w w') : SpW w0 pb lb M A d V n k w' := ⟨h.be.trans (hb.mono h.be.size), h.bk.below hb, hmBel h.om hb, h.mb.below hb, h.ms.below hb, h.mo.below hb, h.ne, h.fr, h.lr⟩
theorem mapNePb {κ β : Type} {K : TypeId} {kl : κ → Lit} {enc : β → Value} {m : Ass κ β} {v : Value} {t : TypeId} {cs : Array Value} (h : MapV K kl enc m n v w) (k : Bk pb t cs w) : v ≠ .map (some pb) := by
  rintro rfl
  rcases h with ⟨h, _⟩ | ⟨b, h, hm⟩
  · cases h
  · cases h
    exact mapNeCells hm k rfl
/-- Behind a change of the step's own blocks. -/
theorem SpW.kep {d' : Sd} {k' : Nat} (h : SpW w0 pb lb M A d V n k w) (hk : Kep pb lb w w') (hS : d'.S = d.S) (hb : BkS pb (sgO d' V M A lb) w') (ho : OmP d'.ln k' lb w') (hl : (-9223372036854775808 ≤ d'.l ∧ d'.l ≤ 9223372036854775807) ∧ (-9223372036854775808 ≤ d'.b ∧ d'.b ≤ 9223372036854775807)) : SpW w0 pb lb M A d' V n k' w' where
  be := h.be.trans (hk.below h.fr.1 h.fr.2 h.be.size)
  bk := hb
  om := ho
  mb := by rw [hS]; exact hk.map h.mb (mapNePb h.mb h.bk) h.ne.1
  ms := by rw [hS]; exact hk.map h.ms (mapNePb h.ms h.bk) h.ne.2.1
  mo := by rw [hS]; exact hk.map h.mo (mapNePb h.mo h.bk) h.ne.2.2
  ne := h.ne
  fr := h.fr
  lr := hl
theorem SpW.nePl (h : SpW w0 pb lb M A d V n k w) : pb ≠ lb := mapNeCells h.om h.bk
theorem SpW.mono {n' k' : Nat} (h : SpW w0 pb lb M A d V n k w) (hn : n ≤ n') (hk : k ≤ k') : SpW w0 pb lb M A d V n' k' w := ⟨h.be, h.bk, h.om.mono hk, h.mb.mono hn, h.ms.mono hn, h.mo.mono hn, h.ne, h.fr, h.lr⟩
end
end Go.Proofs.YtgepbkldgnjpfaaGreatDoor

/- year: the first part of a step: the gross. -/
namespace Go.Proofs.YtgepbkldgnjpfaaGreatDoor
open Go.RowKit Go.Sort Go.BigFrame Go.Maps Go.WideMaps

abbrev BkX (xb pb : Nat) (w : World) : Prop := Bk xb 92 #[.pointer (some ⟨pb, 0, none⟩)] w
theorem Kep.one {pb lb : Nat} {a b : World} (h : Kep pb pb a b) : Kep pb lb a b := ⟨h.os, h.tape, h.output, h.size, fun i hi h1 _ => h.block i hi h1 h1⟩
theorem hmKep {K : TypeId} {pb lb n : Nat} {D : DataW Value} {w w' : World} (h : w.ownsMap Tryz.prog K heldV lb n D) (hk : Kep pb pb w w') (hn : lb ≠ pb) : w'.ownsMap Tryz.prog K heldV lb n D := h.kept (row := some pb) ⟨hk.os, hk.tape, hk.output, hk.size, fun i hi h1 => hk.block i hi (by simpa using h1) (by simpa using h1)⟩ (by simpa using hn)
set_option maxHeartbeats 4000000 in
set_option maxRecDepth 100000 in
theorem yr_p1 (w0 : World) (xb pb lb : Nat) (M : Mon) (A : MoA) (d : Sd) (V : StA) (n k : Nat) (w : World) (hM : MoOk M A w0) (h : SpW w0 pb lb M A d V n k w) (hx : BkX xb pb w) (hk : k ≤ 1000000000) (hsz : ∀ i ∈ M.gr, i.1.size ≤ 32) :
    Calls Tryz.prog 56 #[.pointer (some ⟨xb, 0, none⟩)] w fun e w' => e = .returned (.int .i64 (pf1 M d).2) ∧ Kep pb lb w w' ∧ SpW w0 pb lb M A (pf1 M d).1 V n (k + M.gr.length) w' := by
  obtain ⟨⟨g, er⟩, hsu⟩ : ∃ q, sumC 0 (M.gr.map Prod.snd) = q := ⟨_, rfl⟩
  have hgf : fitB g = true := by have := sumC_fit (M.gr.map Prod.snd) 0 rfl; rw [hsu] at this; exact this
  have hgb := fitB_bd hgf
  have HPF : Hid (pf1 M d = ({ d with g := g, b := g, l := leftP 0 g M.gr, ln := addP 0 d.ln M.gr }, er)) := Lib.hid (by unfold pf1; rw [hsu])
  have HSU : Hid (∀ W, Below w.heap.size w W → Calls Tryz.prog 36 #[.slice A.gr.1 M.gr.length A.gr.2] W fun e w' => e = .returned (.tuple #[.int .i64 g, .int .i64 er]) ∧ Below W.heap.size W w') := Lib.hid fun W hW => by
    have := bf_Sum M.gr A.gr.1 A.gr.2 W hM.ln.1 (hM.gr.below (h.below hW).be)
    rw [hsu] at this
    exact this
  rw [HPF.out]
  have HM := Lib.hid hM
  have HSZ := Lib.hid hsz
  have HKB := Lib.hid hk
  have HGB : Hid (-9223372036854775808 ≤ g ∧ g ≤ 9223372036854775807) := Lib.hid (by omega)
  have HX : Hid (xb ≠ pb ∧ xb ≠ lb ∧ pb ≠ lb) := Lib.hid ⟨fun e => by subst e; exact absurd rfl (Bk.ne_ hx h.bk (by decide)), fun e => by subst e; exact mapNeCells h.om hx rfl, h.nePl⟩
  obtain ⟨wd, hwd⟩ : ∃ y, w.drew = y := ⟨_, rfl⟩
  have hbd : Below w.heap.size w wd := by rw [← hwd]; exact bDrew w
  have X0 : w.cell? ⟨xb, 0, none⟩ = some (.pointer (some ⟨pb, 0, none⟩)) := hx.cell 0
  have X1 : wd.cell? ⟨xb, 0, none⟩ = some (.pointer (some ⟨pb, 0, none⟩)) := (bkBel hx hbd).cell 0
  have G0 : w.cell? ⟨pb, 11, none⟩ = some (.slice A.gr.1 M.gr.length A.gr.2) := Bk.cell h.bk 11
  have G1 : wd.cell? ⟨pb, 11, none⟩ = some (.slice A.gr.1 M.gr.length A.gr.2) := Bk.cell (h.bk.below hbd) 11
  have HBD := Lib.hid hbd
  have HKX : Hid (∀ W, Below wd.heap.size wd W → BkX xb pb W ∧ BkS pb (sgO d V M A lb) W) := Lib.hid fun W hW => ⟨bkBel (bkBel hx hbd) hW, (h.bk.below hbd).below hW⟩
  have HH := Lib.hid h
  have HXX := Lib.hid hx
  have hltx := hx.lt
  have hltp := Bk.lt h.bk
  clear hsu hgf hgb hM h hx hbd hsz hk
  go_enter Tryz.func56, Tryz.ntmps56
  go_upto_region 1 with fail
  go_cut [1] from 2 (fun ev wx => ev = .int .i64 er ∧ Hid (BkS pb (sgO { d with g := g } V M A lb) wx) ∧ Hid (Kep pb pb w wx))
  case first =>
    go_wp2_with fail
    go_region_with (go_at_call 36; (with_reducible refine (HSU.out _ HBD.out).mono ?_); rintro e wn ⟨rfl, hbn⟩; have Y0 : wn.cell? ⟨xb, 0, none⟩ = some (.pointer (some ⟨pb, 0, none⟩)) := (HKX.out wn hbn).1.cell 0; have Y1 : wn.cell? ⟨pb, 21, none⟩ = some (.int .i64 d.g) := Bk.cell (HKX.out wn hbn).2 21; have Y2 : wn.frozen? ⟨pb, 21, none⟩ = false := Bk.frozen (HKX.out wn hbn).2 21; have Y3 : wn.cell? ⟨pb, 11, none⟩ = some (.slice A.gr.1 M.gr.length A.gr.2) := Bk.cell (HKX.out wn hbn).2 11; have HBN := Lib.hid hbn; clear hbn)
    all_goals
      go_wp2
      go_meet
      exact ⟨rfl, Lib.hid (Bk.set_ (HKX.out _ HBN.out).2 21 (.int .i64 g)), Lib.hid ((Kep.of_below (bTrans HBD.out HBN.out)).trans (Kep.set _ _ _))⟩
  case rest =>
  obtain ⟨rfl, HB1, HK1⟩ := hcut
  clear X0 X1 G0 G1 hltx hltp hwd
  have X0 : wc.drew.cell? ⟨xb, 0, none⟩ = some (.pointer (some ⟨pb, 0, none⟩)) := (bkBel (HK1.out.bk HXX.out HX.out.1 HX.out.1) (bDrew wc)).cell 0
  have G0 : wc.drew.cell? ⟨pb, 21, none⟩ = some (.int .i64 g) := Bk.cell (HB1.out.below (bDrew wc)) 21
  have G2 : wc.drew.frozen? ⟨pb, 22, none⟩ = false := Bk.frozen (HB1.out.below (bDrew wc)) 22
  have G3 : wc.drew.frozen? ⟨pb, 23, none⟩ = false := Bk.frozen (HB1.out.below (bDrew wc)) 23
  have X5 : wc.cell? ⟨xb, 0, none⟩ = some (.pointer (some ⟨pb, 0, none⟩)) := (HK1.out.bk HXX.out HX.out.1 HX.out.1).cell 0
  have G5 : wc.cell? ⟨pb, 21, none⟩ = some (.int .i64 g) := Bk.cell HB1.out 21
  have G6 : wc.cell? ⟨pb, 22, none⟩ = some (.int .i64 d.b) := Bk.cell HB1.out 22
  have G7 : wc.cell? ⟨pb, 23, none⟩ = some (.int .i64 d.l) := Bk.cell HB1.out 23
  have G8 : wc.drew.cell? ⟨pb, 22, none⟩ = some (.int .i64 d.b) := Bk.cell (HB1.out.below (bDrew wc)) 22
  have G9 : wc.drew.cell? ⟨pb, 23, none⟩ = some (.int .i64 d.l) := Bk.cell (HB1.out.below (bDrew wc)) 23
  have GA : wc.frozen? ⟨pb, 22, none⟩ = false := Bk.frozen HB1.out 22
  have GB : wc.frozen? ⟨pb, 23, none⟩ = false := Bk.frozen HB1.out 23
  have n1 := HX.out.1
  go_upto_region 2 with fail
  go_cut [1] from 3 (fun ev wc2 => ev = .int .i64 er ∧ Hid (BkS pb (sgO { d with g := g, b := g, l := g } V M A lb) wc2) ∧ Hid (Kep pb pb w wc2))
  case first =>
    go_wp2_with fail
    go_region
    all_goals
      go_wp2
      go_meet
      exact ⟨rfl, Lib.hid (bkBel (Bk.set_ (Bk.set_ HB1.out 22 (.int .i64 g)) 23 (.int .i64 g)) (bDrew _)), Lib.hid (HK1.out.trans ((Kep.set _ _ _).trans ((Kep.set _ _ _).trans (Kep.of_below (bDrew _)))))⟩
  case rest =>
  rename World => wz
  obtain ⟨rfl, HB2, HK2⟩ := hcut
  clear X0 X5 G0 G2 G3 G5 G6 G7 G8 G9 GA GB HB1 HK1
  have hxy := HK2.out.bk HXX.out HX.out.1 HX.out.1
  have HPU : Hid (∀ W, Below wz.heap.size wz W → Calls Tryz.prog 57 #[.pointer (some ⟨pb, 0, none⟩), .int .i64 0, .slice A.gr.1 M.gr.length A.gr.2] W fun e w' => e = .returned (.tuple #[]) ∧ Kep pb lb w w' ∧ SpW w0 pb lb M A { d with g := g, b := g, l := leftP 0 g M.gr, ln := addP 0 d.ln M.gr } V n (k + M.gr.length) w') := Lib.hid fun W hW => by
    have hb := HB2.out.below hW
    have hkV := HK2.out.trans (Kep.of_below hW)
    have hkW : Kep pb lb w W := hkV.one
    refine (yr_put 0 _ pb d.ln k M.gr A.gr.1 A.gr.2 W (by omega) HM.out.ln.1 HSZ.out (fun W' hk' => ?_) hb ?_ HKB.out).mono ?_
    · have h3 := hkW.trans hk'
      exact HM.out.gr.below (HH.out.be.trans (h3.below HH.out.fr.1 HH.out.fr.2 HH.out.be.size))
    · exact hmKep HH.out.om hkV (Ne.symm HX.out.2.2)
    · rintro e w' ⟨rfl, h1, h2, h3⟩
      refine ⟨rfl, hkW.trans h3, ?_⟩
      exact HH.out.kep (hkW.trans h3) rfl h1 h2 ⟨leftP_rng HGB.out, HGB.out⟩
  have X0 : wz.drew.cell? ⟨xb, 0, none⟩ = some (.pointer (some ⟨pb, 0, none⟩)) := (bkBel hxy (bDrew wz)).cell 0
  have X1 : wz.cell? ⟨xb, 0, none⟩ = some (.pointer (some ⟨pb, 0, none⟩)) := hxy.cell 0
  have Y0 : wz.drew.cell? ⟨pb, 11, none⟩ = some (.slice A.gr.1 M.gr.length A.gr.2) := Bk.cell (HB2.out.below (bDrew wz)) 11
  have Y1 : wz.cell? ⟨pb, 11, none⟩ = some (.slice A.gr.1 M.gr.length A.gr.2) := Bk.cell HB2.out 11
  clear hxy
  go_wp2_with fail
  go_region_with (go_at_call 57; (with_reducible refine (HPU.out _ (bDrew wz)).mono ?_); rintro e wn ⟨rfl, hk3, hs3⟩; have HK3 := Lib.hid hk3; have HS3 := Lib.hid hs3; clear hk3 hs3)
  all_goals
    go_wp2
    go_ret
    exact ⟨rfl, HK3.out, HS3.out⟩
end Go.Proofs.YtgepbkldgnjpfaaGreatDoor

/- year: the parts' items are named; a put; the step behind a change of the state. -/
namespace Go.Proofs.YtgepbkldgnjpfaaGreatDoor
open Go.RowKit Go.Sort Go.BigFrame Go.Maps Go.WideMaps

/-- Items that are short of name, and few. -/
def Few (n : Nat) (l : List It) : Prop := (∀ i ∈ l, i.1.size ≤ 32) ∧ l.length ≤ n
theorem Few.nil {n : Nat} : Few n [] := ⟨fun _ h => absurd h (by simp), Nat.zero_le _⟩
theorem Few.snoc {n : Nat} {l : List It} (h : Few n l) {k : ByteArray} (hk : k.size ≤ 32) (c : Int) : Few (n + 1) (l ++ [(k, c)]) := by
  refine ⟨fun i hi => ?_, by rw [List.length_append]; have := h.2; simp; omega⟩
  rcases List.mem_append.1 hi with hi | hi
  · exact h.1 i hi
  · rw [List.mem_singleton.1 hi]; exact hk
theorem Few.mono {n m : Nat} {l : List It} (h : Few n l) (hn : n ≤ m) : Few m l := ⟨h.1, Nat.le_trans h.2 hn⟩
theorem nmB_len {s : ByteArray} (h : ¬ nmB s = false) : s.size ≤ 32 := nameB_len (by rw [← nmB_eq]; simpa using h)
theorem takGo_few (g : Int) (was : Ass ByteArray Int) (by_ : Ass ByteArray Lim) : ∀ (l : List It) (left : Int) (now year : Ass ByteArray Int) (out : List It) (n : Nat), Few n out → Few (n + l.length) (takGo g was by_ left now year out l).1
  | [], left, now, year, out, n, h => h
  | x :: r, left, now, year, out, n, h => by
    unfold takGo
    split
    · exact Few.nil
    split
    · exact Few.nil
    split
    · exact Few.nil
    split
    · exact Few.nil
    rename_i h1 _ _ _
    rw [show n + (x :: r).length = (n + 1) + r.length by simp; omega]
    refine takGo_few g was by_ r _ _ _ _ _ ?_
    split
    · exact h.snoc (nmB_len h1) _
    · exact h.mono (by omega)
theorem takeL_few (g : Int) (was : Ass ByteArray Int) (wanted : List It) (limits : List Lim) : Few 64 (takeL g was wanted limits).1 := by
  unfold takeL
  split
  · exact Few.nil
  split
  · exact Few.nil
  split
  · exact Few.nil
  exact (takGo_few g was _ wanted _ [] was [] 0 Few.nil).mono (by omega)
theorem putI_few {n : Nat} {l : List It} (h : Few n l) {k : ByteArray} (hk : k.size ≤ 32) (c : Int) : Few (n + 1) (putI l k c) := by
  unfold putI
  split
  · exact h.mono (by omega)
  · exact h.snoc hk c
theorem stpS_named {was : S4} {x : Sch} {base : Int} (h : ¬ (stpS was x base).2 ≠ 0) : x.1.size ≤ 32 := by
  have h0 : (stpS was x base).2 = 0 := by simpa using h
  unfold stpS at h0
  split at h0
  · cases h0
  split at h0
  · rename_i hw; exact absurd h0 hw
  rename_i hw
  exact nameB_len (wroE_ok (by simpa using hw)).1
theorem allGo_few (was : Ass ByteArray S4) (base : Int) : ∀ (l : List Sch) (met : Ass ByteArray Unit) (out : Ass ByteArray S4) (wk fi : List It) (n : Nat), Few n wk → Few n fi → Few (n + l.length) (allGo was base met out wk fi l).2.1 ∧ Few (n + l.length) (allGo was base met out wk fi l).2.2.1
  | [], met, out, wk, fi, n, h, k => ⟨h, k⟩
  | x :: r, met, out, wk, fi, n, h, k => by
    unfold allGo
    split
    · exact ⟨Few.nil, Few.nil⟩
    split
    · exact ⟨Few.nil, Few.nil⟩
    rename_i _ h1
    rw [show n + (x :: r).length = (n + 1) + r.length by simp; omega]
    exact allGo_few was base r _ _ _ _ _ (putI_few h (stpS_named h1) _) (putI_few k (stpS_named h1) _)
theorem socL_few (was : Ass ByteArray S4) (base : Int) (l : List Sch) : Few 64 (socL was base l).2.1 ∧ Few 64 (socL was base l).2.2.1 := by
  unfold socL
  split
  · exact ⟨Few.nil, Few.nil⟩
  · have := allGo_few was base l [] was [] [] 0 Few.nil Few.nil
    exact ⟨this.1.mono (by omega), this.2.mono (by omega)⟩
theorem afterL_few : ∀ (l : List It) (left : Int) (n : Nat), Few n l → Few n (afterL left l).1
  | [], left, n, h => Few.nil
  | x :: r, left, n, h => by
    have hr : Few (n - 1) r := ⟨fun i hi => h.1 i (List.mem_cons_of_mem _ hi), by have := h.2; simp at this; omega⟩
    have hn : 1 ≤ n := by have := h.2; simp at this; omega
    unfold afterL
    split
    · have := afterL_few r (left - min x.2 left) (n - 1) hr
      refine ⟨fun i hi => ?_, by have := this.2; simp; omega⟩
      rcases List.mem_cons.1 hi with rfl | hi
      · exact h.1 x List.mem_cons_self
      · exact this.1 i hi
    · exact (afterL_few r left (n - 1) hr).mono (by omega)
theorem attGo_few (net : Int) (was : Ass ByteArray Int) : ∀ (l : List Od) (left : Int) (out : Ass ByteArray Int) (it : List It) (n : Nat), (∀ x ∈ l, x.co.size ≤ 32) → Few n it → Few (n + l.length) (attGo net was left out it l).1
  | [], left, out, it, n, _, h => h
  | x :: r, left, out, it, n, hl, h => by
    unfold attGo
    split
    · exact Few.nil
    split
    · exact Few.nil
    rw [show n + (x :: r).length = (n + 1) + r.length by simp; omega]
    refine attGo_few net was r _ _ _ _ (fun y hy => hl y (List.mem_cons_of_mem _ hy)) ?_
    split
    · exact h.snoc (hl x List.mem_cons_self) _
    · exact h.mono (by omega)
theorem attL_few (net : Int) (was : Ass ByteArray Int) (l : List Od) : Few 64 (attL net was l).1 := by
  unfold attL
  split
  · exact Few.nil
  split
  · exact Few.nil
  rename_i _ h
  have h0 : attE l = 0 := by simpa using h
  have hp := Ao.sortO_perm (l := l) (fun o ho => nameB_len (attE_ok h0 o ho).1)
  refine (attGo_few net was _ net was [] 0 (fun x hx => nameB_len (attE_ok h0 x (hp.mem_iff.1 hx)).1) Few.nil).mono ?_
  have := hp.length_eq
  have := attE_len h0
  omega
/-- A row of the call's own, as a slice. -/
theorem Own.val {α : Type} {enc : α → List Value} {k : Nat} {e : TypeId} {base : Nat} {v : Value} {l : List α} {w : World} (hk : ∀ x, (enc x).length = k) (h : Own enc k e base v l w) : ∃ A cap, v = .slice A l.length cap ∧ ∀ W : World, w.heap.size ≤ W.heap.size → (∀ g, base ≤ g → g < w.heap.size → W.heap[g]? = w.heap[g]?) → Sl enc k W W.heap.size A l := by
  by_cases hl : l = []
  · subst hl
    rcases h.2 with ⟨rfl, _⟩ | ⟨g, cap, cur, rfl, _⟩
    · exact ⟨none, 0, rfl, fun W _ _ h => absurd rfl h⟩
    · exact ⟨_, cap, rfl, fun W _ _ h => absurd rfl h⟩
  · obtain ⟨g, cap, rfl, hb, hr⟩ := h.row hk hl
    refine ⟨_, cap, rfl, fun W hs hg _ => ?_⟩
    have hlt := hr.lt
    obtain ⟨cur, h1, h2⟩ := hr
    have hr' : Rw enc k e g cap l W := ⟨cur, (hg g hb hlt).trans h1, h2⟩
    exact ⟨g, 0, rfl, hr'.lt, fun i x hx j u hu => by rw [Nat.zero_add]; exact hr'.cell hx hu⟩
section
variable {w0 : World} {pb lb : Nat} {M : Mon} {A : MoA} {d : Sd} {V : StA} {n k : Nat} {w w' : World}
theorem SpW.mbK (h : SpW w0 pb lb M A d V n k w) (hk : Kep pb pb w w') : MpC d.S.be n V.be w' ∧ V.be ≠ .map (some lb) := ⟨hk.map h.mb (mapNePb h.mb h.bk) (mapNePb h.mb h.bk), h.ne.1⟩
theorem SpW.msK (h : SpW w0 pb lb M A d V n k w) (hk : Kep pb pb w w') : MpS d.S.so n V.so w' ∧ V.so ≠ .map (some lb) := ⟨hk.map h.ms (mapNePb h.ms h.bk) (mapNePb h.ms h.bk), h.ne.2.1⟩
theorem SpW.moK (h : SpW w0 pb lb M A d V n k w) (hk : Kep pb pb w w') : MpC d.S.od n V.od w' ∧ V.od ≠ .map (some lb) := ⟨hk.map h.mo (mapNePb h.mo h.bk) (mapNePb h.mo h.bk), h.ne.2.2⟩
/-- Behind a change of the state. -/
theorem SpW.chg {d' : Sd} {V' : StA} {n' : Nat} (h : SpW w0 pb lb M A d V n k w) (hk : Kep pb pb w w') (hln : d'.ln = d.ln) (hb : BkS pb (sgO d' V' M A lb) w') (mb : MpC d'.S.be n' V'.be w' ∧ V'.be ≠ .map (some lb)) (ms : MpS d'.S.so n' V'.so w' ∧ V'.so ≠ .map (some lb)) (mo : MpC d'.S.od n' V'.od w' ∧ V'.od ≠ .map (some lb)) (hl : (-9223372036854775808 ≤ d'.l ∧ d'.l ≤ 9223372036854775807) ∧ (-9223372036854775808 ≤ d'.b ∧ d'.b ≤ 9223372036854775807)) : SpW w0 pb lb M A d' V' n' k w' where
  be := h.be.trans (hk.below h.fr.1 h.fr.1 h.be.size)
  bk := hb
  om := by rw [hln]; exact hmKep h.om hk (Ne.symm h.nePl)
  mb := mb.1
  ms := ms.1
  mo := mo.1
  ne := ⟨mb.2, ms.2, mo.2⟩
  fr := h.fr
  lr := hl
/-- A put, of a step under way. -/
theorem SpW.put (part : Int) (h : SpW w0 pb lb M A d V n k w) (l : List It) (B : Option Addr) (cap : Nat) (hp : 0 ≤ part ∧ part ≤ 6) (hf : Few 1000000 l) (hS : ∀ W, Kep pb lb w W → Sl encI 2 W W.heap.size B l) (hk : k ≤ 1000000000) :
    Calls Tryz.prog 57 #[.pointer (some ⟨pb, 0, none⟩), .int .i64 part, .slice B l.length cap] w fun e w' => e = .returned (.tuple #[]) ∧ Kep pb lb w w' ∧ SpW w0 pb lb M A { d with ln := addP part d.ln l, l := leftP part d.l l } V n (k + l.length) w' := by
  refine (yr_put part _ pb d.ln k l B cap w hp hf.2 hf.1 hS h.bk h.om hk).mono ?_
  rintro e w' ⟨rfl, h1, h2, h3⟩
  exact ⟨rfl, h3, h.kep h3 rfl h1 h2 ⟨leftP_rng h.lr.1, h.lr.2⟩⟩
end
end Go.Proofs.YtgepbkldgnjpfaaGreatDoor
