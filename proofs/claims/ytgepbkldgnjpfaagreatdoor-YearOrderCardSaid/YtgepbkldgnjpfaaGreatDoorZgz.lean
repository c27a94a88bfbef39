/- Out of: Yl0. -/
import Derived.Test.YtgepbkldgnjpfaaGreatDoorZgy
import Derived.Lib.ItoaLen
import Derived.WalkKit
/- year: what a state's maps hold, and the size of its text; the document's example, in plain. -/
namespace Go.Proofs.YtgepbkldgnjpfaaGreatDoor
open Go.RowKit Go.Sort Go.BigFrame

/-- Digits, by fuel. -/
def ddF : Nat → Nat → List UInt8
  | 0, u => [UInt8.ofNat (48 + u)]
  | k + 1, u => if u < 10 then [UInt8.ofNat (48 + u)] else ddF k (u / 10) ++ [UInt8.ofNat (48 + u % 10)]
theorem dd_fuel : ∀ (k u : Nat), u < 10 ^ (k + 1) → Lib.decDigits u = ddF k u
  | 0, u, h => by
    rw [Lib.decDigits, dif_pos (by simpa using h)]
    rfl
  | k + 1, u, h => by
    rw [Lib.decDigits]
    unfold ddF
    by_cases h0 : u < 10
    · rw [dif_pos h0, if_pos h0]
    · rw [dif_neg h0, if_neg h0, dd_fuel k (u / 10) (by rw [Nat.pow_succ] at h; omega)]
theorem ddF_len : ∀ (k u : Nat), (ddF k u).length ≤ k + 1
  | 0, u => Nat.le_refl _
  | k + 1, u => by
    unfold ddF
    split
    · simp
    · rw [List.length_append]
      have := ddF_len k (u / 10)
      simp
      omega
def textF (c : Int) : List UInt8 := if c.natAbs ≤ 1125899906842624 then (if c < 0 then [45] else []) ++ (ddF 15 (c.natAbs / 100) ++ 46 :: (ddF 0 (c.natAbs % 100 / 10) ++ ddF 0 (c.natAbs % 100 % 10))) else []
theorem textC_F (c : Int) : textC c = textF c := by
  unfold textC textF
  by_cases h : c.natAbs ≤ 1125899906842624
  · rw [if_pos h, if_pos h, dd_fuel 15 (c.natAbs / 100) (by omega), dd_fuel 0 (c.natAbs % 100 / 10) (by omega), dd_fuel 0 (c.natAbs % 100 % 10) (by omega)]
  · rw [if_neg h, if_neg h]
theorem txC_F (c : Int) : txC c = ⟨(textF c).toArray⟩ := by unfold txC; rw [textC_F]
theorem txC_size (c : Int) : (txC c).size ≤ 40 := by
  rw [txC_F]
  show (textF c).toArray.size ≤ 40
  rw [List.size_toArray]
  unfold textF
  split
  · have h1 := ddF_len 15 (c.natAbs / 100)
    have h2 := ddF_len 0 (c.natAbs % 100 / 10)
    have h3 := ddF_len 0 (c.natAbs % 100 % 10)
    have h4 := ddF_len 0 (c.natAbs % 10)
    simp only [List.length_append, List.length_cons]
    split <;> simp <;> omega
  · simp
theorem txI_size {n : Int} (h0 : 0 ≤ n) (h1 : n ≤ 1000000) : (txI n).size ≤ 40 := by
  unfold txI
  have h := Lib.itoa_length_le n (by omega) (by omega)
  show (Lib.itoa n).toArray.size ≤ 40
  rw [List.size_toArray]
  omega
/-- How long words are, each with one byte more. -/
def wdSz : List ByteArray → Nat
  | [] => 0
  | x :: r => x.size + 1 + wdSz r
theorem putG_le : ∀ (l : List ByteArray) (i : Nat) (s : ByteArray), (putG i s l).size ≤ s.size + wdSz l
  | [], _, _ => Nat.le_refl _
  | x :: r, i, s => by
    have h := putG_le r (i + 1) ((if 0 < i then s ++ ⟨#[32]⟩ else s) ++ x)
    have h2 : ((if 0 < i then s ++ ⟨#[32]⟩ else s) ++ x).size ≤ s.size + 1 + x.size := by
      rw [ByteArray.size_append]
      split
      · rw [ByteArray.size_append]; show s.size + 1 + x.size ≤ _; omega
      · omega
    show (putG (i + 1) _ r).size ≤ s.size + (x.size + 1 + wdSz r)
    omega
theorem lnG_le (s : ByteArray) (l : List ByteArray) : (lnG s l).size ≤ s.size + wdSz l + 1 := by
  unfold lnG
  rw [ByteArray.size_append]
  have := putG_le l 0 s
  show _ + 1 ≤ _
  omega
theorem txB_le {wd : ByteArray} (hw : wd.size ≤ 6) (m : Ass ByteArray Int) : ∀ (l : List ByteArray) (s : ByteArray), (∀ x ∈ l, x.size ≤ 32) → (txB wd m s l).size ≤ s.size + 100 * l.length
  | [], _, _ => Nat.le_refl _
  | k :: r, s, h => by
    unfold txB
    have h1 := txB_le hw m r (if g0 m k ≠ 0 then lnG s [wd, k, txC (g0 m k)] else s) fun x hx => h x (List.mem_cons_of_mem _ hx)
    have h2 : (if g0 m k ≠ 0 then lnG s [wd, k, txC (g0 m k)] else s).size ≤ s.size + 100 := by
      split
      · have h3 := lnG_le s [wd, k, txC (g0 m k)]
        have h4 := h k List.mem_cons_self
        have h5 := txC_size (g0 m k)
        simp only [wdSz] at h3
        omega
      · omega
    rw [List.length_cons]
    omega
theorem txS_le (m : Ass ByteArray S4) : ∀ (l : List ByteArray) (s : ByteArray), (∀ x ∈ l, x.size ≤ 32) → (txS m s l).size ≤ s.size + 300 * l.length
  | [], _, _ => Nat.le_refl _
  | k :: r, s, h => by
    unfold txS
    have h1 := txS_le m r (if g4 m k ≠ (0, 0, 0, 0) then lnG s [wSoc, k, txC (g4 m k).1, txC (g4 m k).2.1, txC (g4 m k).2.2.1, txC (g4 m k).2.2.2] else s) fun x hx => h x (List.mem_cons_of_mem _ hx)
    have h2 : (if g4 m k ≠ (0, 0, 0, 0) then lnG s [wSoc, k, txC (g4 m k).1, txC (g4 m k).2.1, txC (g4 m k).2.2.1, txC (g4 m k).2.2.2] else s).size ≤ s.size + 300 := by
      split
      · have h3 := lnG_le s [wSoc, k, txC (g4 m k).1, txC (g4 m k).2.1, txC (g4 m k).2.2.1, txC (g4 m k).2.2.2]
        have h4 := h k List.mem_cons_self
        have h5 := txC_size (g4 m k).1
        have h6 := txC_size (g4 m k).2.1
        have h7 := txC_size (g4 m k).2.2.1
        have h8 := txC_size (g4 m k).2.2.2
        have h9 : wSoc.size = 6 := rfl
        simp only [wdSz] at h3
        omega
      · omega
    rw [List.length_cons]
    omega
theorem ndL_len : ∀ l : List (List UInt8), (ndL l).length ≤ l.length
  | [] => Nat.le_refl _
  | x :: r => by
    have := ndL_len r
    unfold ndL
    split
    · rw [List.length_cons]; omega
    · simpa using this
theorem keyB_le {β : Type} (m : Ass ByteArray β) : (keyB m).length ≤ m.length := by
  unfold keyB keysA
  rw [List.length_map, List.length_mergeSort]
  exact Nat.le_trans (ndL_len _) (by simp)
/-- A state's maps: short keys, few. -/
def StB (n : Nat) (S : Ste) : Prop := KeyOk S ∧ S.be.length ≤ n ∧ S.so.length ≤ n ∧ S.od.length ≤ n
theorem StB.mono {n n' : Nat} {S : Ste} (h : StB n S) (hn : n ≤ n') : StB n' S := ⟨h.1, by have := h.2; omega, by have := h.2; omega, by have := h.2; omega⟩
theorem StB.none {n : Nat} : StB n Ste.none := ⟨⟨fun _ h => absurd h (by simp [Ste.none]), fun _ h => absurd h (by simp [Ste.none]), fun _ h => absurd h (by simp [Ste.none])⟩, Nat.zero_le _, Nat.zero_le _, Nat.zero_le _⟩
theorem tx_size {n : Nat} {S : Ste} (h : StB n S) (hn : n ≤ 1000000000) (hb : (0 ≤ S.y ∧ S.y ≤ 2199) ∧ (0 ≤ S.i ∧ S.i ≤ 400) ∧ 0 ≤ S.o ∧ S.o ≤ 400) : (txM1 S).size ≤ 9223372036854775807 := by
  obtain ⟨⟨k1, k2, k3⟩, l1, l2, l3⟩ := h
  have a0 : (tx0 S).size ≤ 200 := by
    have h0 := lnG_le ByteArray.empty [wLas, txI S.y, txI S.i, txI S.o]
    have h1 := txI_size (n := S.y) (by omega) (by omega)
    have h2 := txI_size (n := S.i) (by omega) (by omega)
    have h3 := txI_size (n := S.o) (by omega) (by omega)
    have h4 : wLas.size = 4 := rfl
    have h5 : ByteArray.empty.size = 0 := rfl
    simp only [wdSz] at h0
    unfold tx0
    omega
  have a1 : (tx1 S).size ≤ (tx0 S).size + 100 * (keyB S.be).length := txB_le (by decide) S.be (keyB S.be) (tx0 S) (keyB_sz k1)
  have a2 : (tx2 S).size ≤ (tx1 S).size + 300 * (keyB S.so).length := txS_le S.so (keyB S.so) (tx1 S) (keyB_sz k2)
  have a3 : (tx3 S).size ≤ (tx2 S).size + 200 := by
    unfold tx3
    split
    · have h0 := lnG_le (tx2 S) [taxS, txC S.tb, txC S.tt]
      have h1 := txC_size S.tb
      have h2 := txC_size S.tt
      have h4 : taxS.size = 3 := rfl
      simp only [wdSz] at h0
      omega
    · omega
  have a4 : (txM1 S).size ≤ (tx3 S).size + 100 * (keyB S.od).length := txB_le (by decide) S.od (keyB S.od) (tx3 S) (keyB_sz k3)
  have b1 := keyB_le S.be
  have b2 := keyB_le S.so
  have b3 := keyB_le S.od
  omega
theorem takGo_keys (g : Int) (was : Ass ByteArray Int) (by_ : Ass ByteArray Lim) : ∀ (l : List It) (left : Int) (now year : Ass ByteArray Int) (out : List It), (∀ p ∈ year, p.1.size ≤ 32) → (∀ p ∈ (takGo g was by_ left now year out l).2.1, p.1.size ≤ 32) ∧ (takGo g was by_ left now year out l).2.1.length ≤ year.length + l.length
  | [], left, now, year, out, h => ⟨h, Nat.le_refl _⟩
  | x :: r, left, now, year, out, h => by
    unfold takGo
    split
    · exact ⟨fun _ h => absurd h (by simp), Nat.zero_le _⟩
    rename_i h0
    split
    · exact ⟨fun _ h => absurd h (by simp), Nat.zero_le _⟩
    split
    · exact ⟨fun _ h => absurd h (by simp), Nat.zero_le _⟩
    split
    · exact ⟨fun _ h => absurd h (by simp), Nat.zero_le _⟩
    have h1 := takGo_keys g was by_ r (left - limC g by_ now year x.1 (min x.2 left)) ((x.1, g0 now x.1 + limC g by_ now year x.1 (min x.2 left)) :: now) ((x.1, g0 year x.1 + limC g by_ now year x.1 (min x.2 left)) :: year) (if 0 < limC g by_ now year x.1 (min x.2 left) then out ++ [(x.1, limC g by_ now year x.1 (min x.2 left))] else out) (fun p hp => by
      rcases List.mem_cons.1 hp with rfl | hp
      · exact nmB_len h0
      · exact h p hp)
    refine ⟨h1.1, Nat.le_trans h1.2 ?_⟩
    simp only [List.length_cons]
    omega
theorem takeL_keys (g : Int) (was : Ass ByteArray Int) (l : List It) (li : List Lim) (h : ∀ p ∈ was, p.1.size ≤ 32) : (∀ p ∈ (takeL g was l li).2.1, p.1.size ≤ 32) ∧ (takeL g was l li).2.1.length ≤ was.length + 64 := by
  unfold takeL
  split
  · exact ⟨fun _ h => absurd h (by simp), Nat.zero_le _⟩
  split
  · exact ⟨fun _ h => absurd h (by simp), Nat.zero_le _⟩
  split
  · exact ⟨fun _ h => absurd h (by simp), Nat.zero_le _⟩
  have h1 := takGo_keys g was (bndL li).1 l (max g 0) [] was [] h
  exact ⟨h1.1, Nat.le_trans h1.2 (by omega)⟩
theorem allGo_keys (was : Ass ByteArray S4) (base : Int) : ∀ (l : List Sch) (met : Ass ByteArray Unit) (out : Ass ByteArray S4) (wk fi : List It), (∀ p ∈ out, p.1.size ≤ 32) → (∀ p ∈ (allGo was base met out wk fi l).1, p.1.size ≤ 32) ∧ (allGo was base met out wk fi l).1.length ≤ out.length + l.length
  | [], met, out, wk, fi, h => ⟨h, Nat.le_refl _⟩
  | x :: r, met, out, wk, fi, h => by
    rw [allGo_cons]
    split
    · exact ⟨fun _ h => absurd h (by simp), Nat.zero_le _⟩
    split
    · exact ⟨fun _ h => absurd h (by simp), Nat.zero_le _⟩
    rename_i h0
    have h1 := allGo_keys was base r ((x.1, ()) :: met) ((x.1, (stpS (g4 was x.1) x base).1) :: out) (putI wk x.1 ((stpS (g4 was x.1) x base).1.2.2.1 - (g4 was x.1).2.2.1)) (putI fi x.1 ((stpS (g4 was x.1) x base).1.2.2.2 - (g4 was x.1).2.2.2)) (fun p hp => by
      rcases List.mem_cons.1 hp with rfl | hp
      · exact stpS_named h0
      · exact h p hp)
    refine ⟨h1.1, Nat.le_trans h1.2 ?_⟩
    simp only [List.length_cons]
    omega
theorem socL_keys (was : Ass ByteArray S4) (base : Int) (l : List Sch) (h : ∀ p ∈ was, p.1.size ≤ 32) : (∀ p ∈ (socL was base l).1, p.1.size ≤ 32) ∧ (socL was base l).1.length ≤ was.length + 64 := by
  unfold socL
  split
  · exact ⟨fun _ h => absurd h (by simp), Nat.zero_le _⟩
  have h1 := allGo_keys was base l [] was [] [] h
  exact ⟨h1.1, Nat.le_trans h1.2 (by omega)⟩
theorem attGo_keys (net : Int) (was : Ass ByteArray Int) : ∀ (l : List Od) (left : Int) (out : Ass ByteArray Int) (it : List It), (∀ p ∈ out, p.1.size ≤ 32) → (∀ o ∈ l, o.co.size ≤ 32) → (∀ p ∈ (attGo net was left out it l).2.1, p.1.size ≤ 32) ∧ (attGo net was left out it l).2.1.length ≤ out.length + l.length
  | [], left, out, it, h, _ => ⟨h, Nat.le_refl _⟩
  | x :: r, left, out, it, h, hl => by
    rw [attGo_cons]
    split
    · exact ⟨fun _ h => absurd h (by simp), Nat.zero_le _⟩
    split
    · exact ⟨fun _ h => absurd h (by simp), Nat.zero_le _⟩
    have h1 := attGo_keys net was r (left - takO net was left x) ((x.co, g0 was x.co + takO net was left x) :: out) (if 0 < takO net was left x then it ++ [(x.co, takO net was left x)] else it) (fun p hp => by
      rcases List.mem_cons.1 hp with rfl | hp
      · exact hl x List.mem_cons_self
      · exact h p hp) (fun o ho => hl o (List.mem_cons_of_mem _ ho))
    refine ⟨h1.1, Nat.le_trans h1.2 ?_⟩
    simp only [List.length_cons]
    omega
theorem attL_keys (net : Int) (was : Ass ByteArray Int) (l : List Od) (h : ∀ p ∈ was, p.1.size ≤ 32) : (∀ p ∈ (attL net was l).2.1, p.1.size ≤ 32) ∧ (attL net was l).2.1.length ≤ was.length + 64 := by
  unfold attL
  split
  · exact ⟨fun _ h => absurd h (by simp), Nat.zero_le _⟩
  split
  · exact ⟨fun _ h => absurd h (by simp), Nat.zero_le _⟩
  rename_i h0
  have h0' : attE l = 0 := by simpa using h0
  have hsz : ∀ o ∈ l, o.co.size ≤ 32 := fun o ho => nameB_len (attE_ok h0' o ho).1
  have hp := Ao.sortO_perm hsz
  have h1 := attGo_keys net was (Ao.sortO l) net was [] h (fun o ho => hsz o (hp.mem_iff.1 ho))
  refine ⟨h1.1, Nat.le_trans h1.2 ?_⟩
  rw [hp.length_eq]
  have := attE_len h0'
  omega
theorem parts_StB {M : Mon} {f : Sd → Sd × Int} (hf : f ∈ prts M) {n : Nat} {d : Sd} (h : StB n d.S) : StB (n + 64) (f d).1.S := by
  obtain ⟨⟨k1, k2, k3⟩, l1, l2, l3⟩ := h
  simp only [prts, List.mem_cons, List.not_mem_nil, or_false] at hf
  rcases hf with rfl | rfl | rfl | rfl | rfl | rfl
  · exact ⟨⟨k1, k2, k3⟩, by show d.S.be.length ≤ _; omega, by show d.S.so.length ≤ _; omega, by show d.S.od.length ≤ _; omega⟩
  · have h := takeL_keys d.g d.S.be M.be M.li k1
    exact ⟨⟨h.1, k2, k3⟩, by show (takeL d.g d.S.be M.be M.li).2.1.length ≤ _; omega, by show d.S.so.length ≤ _; omega, by show d.S.od.length ≤ _; omega⟩
  · have h := socL_keys d.S.so d.g M.sc k2
    exact ⟨⟨k1, h.1, k3⟩, by show d.S.be.length ≤ _; omega, by show (socL d.S.so d.g M.sc).1.length ≤ _; omega, by show d.S.od.length ≤ _; omega⟩
  · exact ⟨⟨k1, k2, k3⟩, by show d.S.be.length ≤ _; omega, by show d.S.so.length ≤ _; omega, by show d.S.od.length ≤ _; omega⟩
  · exact ⟨⟨k1, k2, k3⟩, by show d.S.be.length ≤ _; omega, by show d.S.so.length ≤ _; omega, by show d.S.od.length ≤ _; omega⟩
  · have h := attL_keys d.l d.S.od M.od k3
    exact ⟨⟨k1, k2, h.1⟩, by show d.S.be.length ≤ _; omega, by show d.S.so.length ≤ _; omega, by show (attL d.l d.S.od M.od).2.1.length ≤ _; omega⟩
theorem runs_StB {M : Mon} : ∀ (l : List (Sd → Sd × Int)) (d : Sd) (e : Int) (n : Nat), (∀ f ∈ l, f ∈ prts M) → StB n d.S → StB (n + 64 * l.length) (runs l d e).1.S
  | [], d, e, n, _, h => h
  | f :: r, d, e, n, hl, h => by
    unfold runs
    split
    · exact h.mono (by omega)
    · have h1 := runs_StB r (f d).1 (f d).2 (n + 64) (fun g hg => hl g (List.mem_cons_of_mem _ hg)) (parts_StB (hl f List.mem_cons_self) h)
      exact h1.mono (by rw [List.length_cons]; omega)
theorem d0_StB {n : Nat} {S : Ste} {M : Mon} (h : StB n S) : StB n (d0 S M).S := by
  unfold d0
  split
  · exact ⟨⟨fun _ h => absurd h (by simp), fun _ h => absurd h (by simp), h.1.2.2⟩, Nat.zero_le _, Nat.zero_le _, h.2.2.2⟩
  · exact h
theorem step_StB {n : Nat} {S : Ste} {M : Mon} (h : StB n S) : StB (n + 384) (stepM S M).1 := by
  have h1 := runs_StB (M := M) (prts M) (d0 S M) (chkM S M) n (fun _ h => h) (d0_StB h)
  unfold stepM
  dsimp only
  split
  · exact h.mono (by omega)
  split
  · exact h.mono (by omega)
  split
  · exact h.mono (by omega)
  · exact h1.mono (by simp [prts])
theorem resGo_StB (S0 : Ste) : ∀ (l : List Mon) (now : Ste) (out : List Slp) (n : Nat), StB n now → StB n S0 → StB (n + 384 * l.length) (resGo S0 now out l).2.1
  | [], now, out, n, h, _ => h
  | m :: r, now, out, n, h, h0 => by
    unfold resGo
    split
    · exact h0.mono (by omega)
    · exact (resGo_StB S0 r _ _ (n + 384) (step_StB h) (h0.mono (by omega))).mono (by rw [List.length_cons]; omega)
theorem fold_StB (l : List Mon) : StB 1572864 (foldM l).2.1 := by
  unfold foldM resM
  split
  · exact StB.none
  · exact (resGo_StB Ste.none l Ste.none [] 0 StB.none StB.none).mono (by omega)

def cOld : ByteArray := ⟨#[111, 108, 100]⟩
def cLoan : ByteArray := ⟨#[108, 111, 97, 110]⟩
def cSalary : ByteArray := ⟨#[115, 97, 108, 97, 114, 121]⟩
/-- The document's Month. -/
def someM : Mon := ⟨2024, 1, 12, [(cSalary, 500000)], [], [], [], [(cOld, 100000, 100000, 0)], 0, 0, [], [⟨cLoan, 0, 0, 10000, 0, 0⟩]⟩
def someS : Ste := ⟨2024, 1, 12, [], [(cOld, 500000, 500000, 50000, 50000)], 500000, 0, [(cLoan, 10000)]⟩
def someL : List Li := [(0, cSalary, 500000), (2, cOld, 50000), (5, cLoan, 10000), (6, cOld, 50000)]
def someLn : Ass Kp Int := [(⟨(5, cLoan), by decide⟩, 10000), (⟨(3, taxS), by decide⟩, 0), (⟨(6, cOld), by decide⟩, 50000), (⟨(2, cOld), by decide⟩, 50000), (⟨(0, cSalary), by decide⟩, 500000)]
theorem some_runs : runs (prts someM) (d0 Ste.none someM) (chkM Ste.none someM) = (⟨someS, someLn, 500000, 500000, 440000⟩, 0) := by kernel_rfl
theorem strict_inj : ∀ {s : List Li}, s.Pairwise (fun x y => keyL x < keyL y) → ∀ a ∈ s, ∀ b ∈ s, keyL a = keyL b → a = b
  | [], _, a, ha, _, _, _ => absurd ha (by simp)
  | x :: r, h, a, ha, b, hb, he => by
    rw [List.pairwise_cons] at h
    rcases List.mem_cons.1 ha with h1 | h1
    · rcases List.mem_cons.1 hb with h2 | h2
      · rw [h1, h2]
      · have := h.1 b h2
        rw [h1] at he
        omega
    · rcases List.mem_cons.1 hb with h2 | h2
      · have := h.1 a h1
        rw [h2] at he
        omega
      · exact strict_inj h.2 a h1 b h2 he
/-- Lines sorted: the one list that rises. -/
theorem sort_uniq {L s : List Li} (hp : s.Perm L) (hs : s.Pairwise fun x y => keyL x < keyL y) : L.mergeSort (fun x y => decide (keyL x ≤ keyL y)) = s := by
  have tr : ∀ a b c : Li, decide (keyL a ≤ keyL b) = true → decide (keyL b ≤ keyL c) = true → decide (keyL a ≤ keyL c) = true := fun a b c h1 h2 => by simp only [decide_eq_true_eq] at *; omega
  have tot : ∀ a b : Li, (decide (keyL a ≤ keyL b) || decide (keyL b ≤ keyL a)) = true := fun a b => by simp only [Bool.or_eq_true, decide_eq_true_eq]; omega
  have hm := List.mergeSort_perm L (fun x y => decide (keyL x ≤ keyL y))
  refine List.Perm.eq_of_pairwise (le := fun a b => keyL a ≤ keyL b) (fun a b ha hb h1 h2 => ?_) ?_ (hs.imp fun h => by omega) (hm.trans hp.symm)
  · exact strict_inj hs a (hp.mem_iff.2 (hm.mem_iff.1 ha)) b hb (by omega)
  · exact (List.pairwise_mergeSort tr tot L).imp fun h => of_decide_eq_true h
theorem some_slip : slpR someLn = (someL, 0) := by
  have h1 : slpOk someLn = true := by decide +kernel
  have h2 : slpG someLn [] = [(5, cLoan, 10000), (6, cOld, 50000), (2, cOld, 50000), (0, cSalary, 500000)] := by decide +kernel
  have h3 : slpS someLn = someL := by
    unfold slpS
    rw [h2]
    exact sort_uniq (by decide +kernel) (by decide +kernel)
  unfold slpR
  rw [h1, h3]
  rfl
theorem some_step : stepM Ste.none someM = (someS, (2024, 1, someL), 0) := by
  unfold stepM
  dsimp only
  rw [some_runs]
  dsimp only
  rw [some_slip]
  have h : slpE someM.y someM.i someL = 0 := by decide +kernel
  dsimp only
  rw [if_neg (by simp), if_neg (by simp), h, if_neg (by simp)]
  rfl
theorem txI_F {n : Int} (h0 : 0 ≤ n) (h1 : n < 10000000000000000) : txI n = ⟨(ddF 15 n.toNat).toArray⟩ := by
  unfold txI Lib.itoa
  rw [if_neg (by omega), dd_fuel 15 n.toNat (by omega)]
/-- The text of the document's example. -/
def someT : ByteArray := ⟨([108, 97, 115, 116, 32, 50, 48, 50, 52, 32, 49, 32, 49, 50, 10, 115, 111, 99, 105, 97, 108, 32, 111, 108, 100, 32, 53, 48, 48, 48, 46, 48, 48, 32, 53, 48, 48, 48, 46, 48, 48, 32, 53, 48, 48].append [46, 48, 48, 32, 53, 48, 48, 46, 48, 48, 10, 116, 97, 120, 32, 53, 48, 48, 48, 46, 48, 48, 32, 48, 46, 48, 48, 10, 111, 114, 100, 101, 114, 32, 108, 111, 97, 110, 32, 49, 48, 48, 46, 48, 48, 10]).toArray⟩
theorem some_text : txM someS = someT := by
  have k1 : keyB someS.be = [] := by decide +kernel
  have k2 : keyB someS.so = [cOld] := by decide +kernel
  have k3 : keyB someS.od = [cLoan] := by decide +kernel
  have g1 : g4 someS.so cOld = (500000, 500000, 50000, 50000) := by decide +kernel
  have g2 : g0 someS.od cLoan = 10000 := by decide +kernel
  have e0 : tx0 someS = lnG ByteArray.empty [wLas, ⟨(ddF 15 2024).toArray⟩, ⟨(ddF 15 1).toArray⟩, ⟨(ddF 15 12).toArray⟩] := by
    unfold tx0
    rw [txI_F (n := someS.y) (by decide) (by decide), txI_F (n := someS.i) (by decide) (by decide), txI_F (n := someS.o) (by decide) (by decide)]
    rfl
  have e1 : tx1 someS = tx0 someS := by unfold tx1; rw [k1]; rfl
  have e2 : tx2 someS = lnG (tx1 someS) [wSoc, cOld, txC 500000, txC 500000, txC 50000, txC 50000] := by
    unfold tx2
    rw [k2]
    unfold txS
    rw [g1, if_pos (by decide)]
    rfl
  have e3 : tx3 someS = lnG (tx2 someS) [taxS, txC 500000, txC 0] := if_pos (by decide)
  have e4 : txM1 someS = lnG (tx3 someS) [wOrd, cLoan, txC 10000] := by
    unfold txM1
    rw [k3]
    unfold txB
    rw [g2, if_pos (by decide)]
    rfl
  have e5 : txM someS = txM1 someS := if_neg (by decide)
  rw [e5, e4, e3, e2, e1, e0, txC_F, txC_F, txC_F, txC_F]
  decide +kernel
end Go.Proofs.YtgepbkldgnjpfaaGreatDoor
