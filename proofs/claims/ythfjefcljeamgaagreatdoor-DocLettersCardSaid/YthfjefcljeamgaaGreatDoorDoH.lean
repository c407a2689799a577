/- The document: what an op tells of texts is written. -/
import Derived.Test.YthfjefcljeamgaaGreatDoorDoG
namespace Go.Proofs.YthfjefcljeamgaaGreatDoor
set_option maxRecDepth 100000
set_option maxHeartbeats 4000000
open Go.RowKit
attribute [local go_sem ↓] Go.wp_at_zero Go.wp_at_succ
def DocWritePost (F : Nat → Prop) (b : Nat) (s : DSt) (o : Dc.Op) (w : World) (e : Ending) (w' : World) : Prop :=
 e = .returned (.int .i64 (Dc.writeErr s.tx o)) ∧ (Dc.writeErr s.tx o ≠ 0 → Keeps No w w') ∧
 (Dc.writeErr s.tx o = 0 → DocC (Grow F w) b { s with tx := Dc.writeX s.tx o } w' ∧ Keeps (fun g => F g ∧ g < w.heap.size) w w')
theorem docWrite_any {F : Nat → Prop} {b : Nat} {s : DSt} {w : World} (h : DocC F b s w) (hE : Env w) {n : Nat} (hx : Dc.TxOk s.tx n) (hn : n ≤ 15000) (hfull : ∀ seg t, s.tx.texts seg = some t → Dc.RowFull t) (o : Dc.Op) (cv : Value) (hcv : Lies 4 cutCells cv o.cuts w) (hcF : o.cuts ≠ [] → ∀ g, cv.ownBlock = some g → ¬ F g) (hcz : o.cuts.length ≤ 1000000) (hok : o.ok = true) (hsz : o.text.length ≤ 1000000000) :
  Calls Tryz.prog 68 #[.pointer (some ⟨b, 0, none⟩), opV o cv] w (DocWritePost F b s o w) := by
 have h0 := h
 obtain ⟨lab, vo, bk, bx, bt, bc, bw, h⟩ := h
 have hb := h.cells
 have hcl : o.cuts ≠ [] → ∀ g, cv.ownBlock = some g → ¬ lab g = some .tx := fun hne g hg e => hcF hne g hg (h.own g (by rw [e]; simp)).1
 have HOP := Hx (fun W (k : Keeps No w W) => txOpen_any (h.tx.no k) (hE.no k) o.id)
 have HDO := Hx (fun W (k : Keeps No w W) => txDo_any (h.tx.no k) (hE.no k) hx hn hfull o cv (hcv.no k) hcl hcz hok hsz)
 have HLT : Hid (∀ g, lab g = some DLab.tx → g < w.heap.size) := Hx fun g hg => (h.own g (by rw [hg]; simp)).2
 have HB : Hid (¬ lab b = some .tx) := Hx (by rw [h.self]; simp)
 have HW : Hid (∀ W W' x' er, Keeps No w W → (er ≠ 0 → Keeps No W W') → (er = (0 : Int) → TextsIs (Grow (fun g => lab g = some .tx) W) bx x' W' ∧ Keeps (fun g => lab g = some .tx ∧ g < W.heap.size) W W') →
   Keeps (fun g => lab g = some .tx ∧ g < W.heap.size) W W' ∧ (er ≠ 0 → Keeps No w W') ∧ (er = 0 → DocC (Grow F w) b { s with tx := x' } W' ∧ Keeps (fun g => F g ∧ g < w.heap.size) w W')) := Hx fun W W' x' er k h1 h2 => by
  by_cases e : er = 0
  ·obtain ⟨g1, g2⟩ := h2 e
   refine ⟨g2, fun e1 => absurd e e1, fun _ => ⟨?_, k.any.step g2 fun g hg hl => ⟨(h.own g (by rw [hg.1]; simp)).1, hl⟩⟩⟩
   have hD := (h.no k).turnTx (g2.mono fun g hg _ => hg.1) g1
   have hD' : DocC (Grow F W) b { s with tx := x' } W' := ⟨_, _, _, _, _, _, _, hD⟩
   exact hD'.mono fun g hg _ => hg.imp_right fun e => Nat.le_trans k.size e
  ·exact ⟨(h1 e).any, fun _ => k.trans (h1 e), fun e1 => absurd e1 e⟩
 have HK0 : Hid (∀ W, Keeps No w W → DocC (Grow F w) b s W) := Hx fun W k => (h0.no k).mono fun g hg _ => .inl hg
 have hwe : Dc.writeErr s.tx o = if o.kind = 1 then Dc.openErr s.tx o.id else if o.kind = 3 ∨ o.kind = 5 ∨ o.kind = 4 then Dc.doXErr s.tx o else 0 := rfl
 have hwx : Dc.writeX s.tx o = if o.kind = 1 then Dc.openX s.tx o.id else if o.kind = 3 ∨ o.kind = 5 ∨ o.kind = 4 then Dc.doX s.tx o else s.tx := rfl
 have HPOST : Hid (∀ e er x' w', er = Dc.writeErr s.tx o → x' = Dc.writeX s.tx o → e = .returned (.int .i64 er) → (er ≠ 0 → Keeps No w w') → (er = 0 → DocC (Grow F w) b { s with tx := x' } w' ∧ Keeps (fun g => F g ∧ g < w.heap.size) w w') → DocWritePost F b s o w e w') := Hx fun e er x' w' e1 e2 e3 h1 h2 => by
  subst e1 e2 e3
  exact ⟨rfl, h1, h2⟩
 have HWE := Hx hwe
 have HWX := Hx hwx
 generalize DocWritePost F b s o w = post at HPOST ⊢
 clear h h0 hE hx hfull hcv hcF hcl hwe hwx hok
 by_cases h1 : o.kind = 1
 ·have he := HWE.out
  have hd := HWX.out
  rw [if_pos h1] at he hd
  have HF : Hid (∀ W', (Dc.openErr s.tx o.id ≠ 0 → Keeps No w W') → (Dc.openErr s.tx o.id = 0 → DocC (Grow F w) b { s with tx := Dc.openX s.tx o.id } W' ∧ Keeps (fun g => F g ∧ g < w.heap.size) w W') → post (.returned (.int .i64 (Dc.openErr s.tx o.id))) W') := Hx fun W' h1 h2 => HPOST.out _ _ _ _ he.symm hd.symm rfl h1 h2
  have b1 : (o.kind == 1) = true := by simp [h1]
  clear h1 he hd HWE HWX HPOST HDO HK0
  go_enter Tryz.func68, Tryz.ntmps68
  go_upto_region 1 with (fail)
  have k0 : Keeps No w (w.alloc (.cells (opArr o cv) 29)) := (Keeps.refl No w).alloc _
  have hP := Nx w (.cells (opArr o cv) 29)
  generalize w.alloc (.cells (opArr o cv) 29) = w1 at k0 hP ⊢
  obtain ⟨P, eP⟩ : ∃ P, P = w.heap.size := ⟨_, rfl⟩
  rw [← eP] at hP ⊢
  have hPw : w.heap.size ≤ P := by omega
  clear eP
  have p0 := Cx hP 0
  go_upto_region 3 with (fail)
  have kd : Keeps No w1 w1.drew := (Keeps.refl No w1).drew
  have hb1 := k0.heap hb id
  have HSA : Hid (∀ W : World, W.heap[b]? = some (.cells (docArr vo bk bx bt bc bw) 113 (0, 0)) → W.heap[P]? = some (.cells (opArr o cv) 29 (0, 0)) → W.cell? ⟨b, 2, none⟩ = some (.pointer (some ⟨bx, 0, none⟩)) ∧ W.cell? ⟨P, 1, none⟩ = some (.int .i64 o.id.R) ∧ W.cell? ⟨P, 2, none⟩ = some (.int .i64 o.id.N)) := Hx fun W e0 e1 =>
   ⟨Cx e0 2, Cx e1 1, Cx e1 2⟩
  have hb1d := kd.heap hb1 id
  have hPd := kd.heap hP id
  have HS0 := HSA.out _ hb1d hPd
  have HO1 := Hx (HOP.out _ (k0.trans kd))
  have HW1 := Hx (fun W' => HW.out _ W' (Dc.openX s.tx o.id) (Dc.openErr s.tx o.id) (k0.trans kd))
  clear hP hb1 HOP HW
  go_region_held3 (fun W => W.cell? ⟨b, 2, none⟩ = some (.pointer (some ⟨bx, 0, none⟩)) ∧ W.cell? ⟨P, 1, none⟩ = some (.int .i64 o.id.R) ∧ W.cell? ⟨P, 2, none⟩ = some (.int .i64 o.id.N))
   (first | exact HS0 | exact HS1)
   (first
    | (go_at_call 108; (with_reducible refine HO1.out.mono ?_); rintro e w2 ⟨rfl, g1, g2⟩; obtain ⟨k2, q1, q2⟩ := HW1.out w2 g1 g2; have HS1 := HSA.out _ (k2.heap hb1d (fun e => HB.out e.1)) (k2.heap hPd (fun e => by have := HLT.out _ e.1; omega))))
  all_goals
   have HFIN := Hx (HF.out w2 q1 q2)
   go_wp2_with fail
   exact HFIN.out
 ·by_cases hw : o.kind = 3 ∨ o.kind = 5 ∨ o.kind = 4
  ·have he := HWE.out
   have hd := HWX.out
   rw [if_neg h1, if_pos hw] at he hd
   have HF : Hid (∀ W', (Dc.doXErr s.tx o ≠ 0 → Keeps No w W') → (Dc.doXErr s.tx o = 0 → DocC (Grow F w) b { s with tx := Dc.doX s.tx o } W' ∧ Keeps (fun g => F g ∧ g < w.heap.size) w W') → post (.returned (.int .i64 (Dc.doXErr s.tx o))) W') := Hx fun W' h1 h2 => HPOST.out _ _ _ _ he.symm hd.symm rfl h1 h2
   clear he hd HWE HWX HPOST HOP HK0
   have b1 : (o.kind == 1) = false := by simp [h1]
   rcases hw with h3 | h5 | h4
   ·have b3 : (o.kind == 3) = true := by simp [h3]
    clear h1 h3
    go_enter Tryz.func68, Tryz.ntmps68
    go_upto_region 1 with (fail)
    have k0 : Keeps No w (w.alloc (.cells (opArr o cv) 29)) := (Keeps.refl No w).alloc _
    have hP := Nx w (.cells (opArr o cv) 29)
    generalize w.alloc (.cells (opArr o cv) 29) = w1 at k0 hP ⊢
    obtain ⟨P, eP⟩ : ∃ P, P = w.heap.size := ⟨_, rfl⟩
    rw [← eP] at hP ⊢
    have hPw : w.heap.size ≤ P := by omega
    clear eP
    have p0 := Cx hP 0
    go_upto_region 7 with (fail)
    have kd : Keeps No w1 w1.drew := (Keeps.refl No w1).drew
    have hb1 := k0.heap hb id
    have hb1d := kd.heap hb1 id
    have hPd := kd.heap hP id
    have HO1 := Hx (HDO.out _ (k0.trans kd))
    have HW1 := Hx (fun W' => HW.out _ W' (Dc.doX s.tx o) (Dc.doXErr s.tx o) (k0.trans kd))
    clear hP hb1 HDO HW p0
    refine wp_region_held_drew (S := fun W => W.cell? ⟨b, 2, none⟩ = some (.pointer (some ⟨bx, 0, none⟩)) ∧ W.heap[P]? = some (.cells (opArr o cv) 29 (0, 0))) Rx ⟨Cx hb1d 2, hPd⟩ (fun HS5 => ?_)
    generalize w1.drew = w1d at kd hb1d hPd HO1 HW1 HS5 ⊢
    refine Tx 0 ?_ ?_ ?_
    rotate_left
    focus
     intro wH hSw
     try simp only [Gx]
     try dsimp only at hSw
     go_simp
     try with_reducible rfl
    try simp only [Gx, Act.put, Sx]
    refine Tx 1 ?_ ?_ ?_
    rotate_left
    focus
     intro wH hSw
     try simp only [Gx]
     try dsimp only at hSw
     go_simp
     try with_reducible rfl
    try simp only [Gx, Act.put, Sx]
    refine Tx 2 ?_ ?_ ?_
    rotate_left
    focus
     intro wH hSw
     try simp only [Gx]
     try dsimp only at hSw
     go_simp
     try with_reducible rfl
    try simp only [Gx, Act.put, Sx]
    refine Tx 3 ?_ ?_ ?_
    rotate_left
    focus
     intro wH hSw
     try simp only [Gx]
     try dsimp only at hSw
     go_simp
     try with_reducible rfl
    try simp only [Gx, Act.put, Sx]
    refine wpAnyH_take (i := 4) (v := .agg (opArr o cv)) rfl Rx Rx Rx (fun _ _ _ h => h) (yieldsIf_load_all rfl _ _ rfl P _ 29 _ rfl (fun W h => h.2) Tryz.underlying29 rfl Rx) HS5 ?_
    simp only [Gx, Act.put, Sx]
    refine wpAnyH_ready (rs := [5]) Rx (by simp) ?_
    refine AllReadyH.cons rfl (fun K hK => ?_) ?_
    try simp only [Gx] at hK ⊢
    rotate_left
    exact AllReadyH.nil
    go_simp
    go_at_call 109
    (with_reducible refine HO1.out.mono ?_)
    rintro e w2 ⟨rfl, g1, g2⟩
    obtain ⟨k2, q1, q2⟩ := HW1.out w2 g1 g2
    have HFIN := Hx (HF.out w2 q1 q2)
    refine hK.out _ _ ⟨Cx (k2.heap hb1d (fun e => HB.out e.1)) 2, k2.heap hPd (fun e => by have := HLT.out _ e.1; omega)⟩ (fun HS6 => ?_)
    clear hK
    try simp only [Act.put, Sx]
    refine Tx 6 ?_ ?_ ?_
    rotate_left
    focus
     intro wH hSw
     try simp only [Gx]
     try dsimp only at hSw
     go_simp
     try with_reducible rfl
    try simp only [Gx, Act.put, Sx]
    refine wpAnyH_done Rx ?_ _
    go_wp2_with fail
    exact HFIN.out
   ·have b3 : (o.kind == 3) = false := by simp [h5]
    have b5 : (o.kind == 5) = true := by simp [h5]
    clear h1 h5
    go_enter Tryz.func68, Tryz.ntmps68
    go_upto_region 1 with (fail)
    have k0 : Keeps No w (w.alloc (.cells (opArr o cv) 29)) := (Keeps.refl No w).alloc _
    have hP := Nx w (.cells (opArr o cv) 29)
    generalize w.alloc (.cells (opArr o cv) 29) = w1 at k0 hP ⊢
    obtain ⟨P, eP⟩ : ∃ P, P = w.heap.size := ⟨_, rfl⟩
    rw [← eP] at hP ⊢
    have hPw : w.heap.size ≤ P := by omega
    clear eP
    have p0 := Cx hP 0
    go_upto_region 7 with (fail)
    have kd : Keeps No w1 w1.drew := (Keeps.refl No w1).drew
    have hb1 := k0.heap hb id
    have hb1d := kd.heap hb1 id
    have hPd := kd.heap hP id
    have HO1 := Hx (HDO.out _ (k0.trans kd))
    have HW1 := Hx (fun W' => HW.out _ W' (Dc.doX s.tx o) (Dc.doXErr s.tx o) (k0.trans kd))
    clear hP hb1 HDO HW p0
    refine wp_region_held_drew (S := fun W => W.cell? ⟨b, 2, none⟩ = some (.pointer (some ⟨bx, 0, none⟩)) ∧ W.heap[P]? = some (.cells (opArr o cv) 29 (0, 0))) Rx ⟨Cx hb1d 2, hPd⟩ (fun HS5 => ?_)
    generalize w1.drew = w1d at kd hb1d hPd HO1 HW1 HS5 ⊢
    refine Tx 0 ?_ ?_ ?_
    rotate_left
    focus
     intro wH hSw
     try simp only [Gx]
     try dsimp only at hSw
     go_simp
     try with_reducible rfl
    try simp only [Gx, Act.put, Sx]
    refine Tx 1 ?_ ?_ ?_
    rotate_left
    focus
     intro wH hSw
     try simp only [Gx]
     try dsimp only at hSw
     go_simp
     try with_reducible rfl
    try simp only [Gx, Act.put, Sx]
    refine Tx 2 ?_ ?_ ?_
    rotate_left
    focus
     intro wH hSw
     try simp only [Gx]
     try dsimp only at hSw
     go_simp
     try with_reducible rfl
    try simp only [Gx, Act.put, Sx]
    refine Tx 3 ?_ ?_ ?_
    rotate_left
    focus
     intro wH hSw
     try simp only [Gx]
     try dsimp only at hSw
     go_simp
     try with_reducible rfl
    try simp only [Gx, Act.put, Sx]
    refine wpAnyH_take (i := 4) (v := .agg (opArr o cv)) rfl Rx Rx Rx (fun _ _ _ h => h) (yieldsIf_load_all rfl _ _ rfl P _ 29 _ rfl (fun W h => h.2) Tryz.underlying29 rfl Rx) HS5 ?_
    simp only [Gx, Act.put, Sx]
    refine wpAnyH_ready (rs := [5]) Rx (by simp) ?_
    refine AllReadyH.cons rfl (fun K hK => ?_) ?_
    try simp only [Gx] at hK ⊢
    rotate_left
    exact AllReadyH.nil
    go_simp
    go_at_call 109
    (with_reducible refine HO1.out.mono ?_)
    rintro e w2 ⟨rfl, g1, g2⟩
    obtain ⟨k2, q1, q2⟩ := HW1.out w2 g1 g2
    have HFIN := Hx (HF.out w2 q1 q2)
    refine hK.out _ _ ⟨Cx (k2.heap hb1d (fun e => HB.out e.1)) 2, k2.heap hPd (fun e => by have := HLT.out _ e.1; omega)⟩ (fun HS6 => ?_)
    clear hK
    try simp only [Act.put, Sx]
    refine Tx 6 ?_ ?_ ?_
    rotate_left
    focus
     intro wH hSw
     try simp only [Gx]
     try dsimp only at hSw
     go_simp
     try with_reducible rfl
    try simp only [Gx, Act.put, Sx]
    refine wpAnyH_done Rx ?_ _
    go_wp2_with fail
    exact HFIN.out
   ·have b3 : (o.kind == 3) = false := by simp [h4]
    have b5 : (o.kind == 5) = false := by simp [h4]
    have b4 : (o.kind == 4) = true := by simp [h4]
    clear h1 h4
    go_enter Tryz.func68, Tryz.ntmps68
    go_upto_region 1 with (fail)
    have k0 : Keeps No w (w.alloc (.cells (opArr o cv) 29)) := (Keeps.refl No w).alloc _
    have hP := Nx w (.cells (opArr o cv) 29)
    generalize w.alloc (.cells (opArr o cv) 29) = w1 at k0 hP ⊢
    obtain ⟨P, eP⟩ : ∃ P, P = w.heap.size := ⟨_, rfl⟩
    rw [← eP] at hP ⊢
    have hPw : w.heap.size ≤ P := by omega
    clear eP
    have p0 := Cx hP 0
    go_upto_region 7 with (fail)
    have kd : Keeps No w1 w1.drew := (Keeps.refl No w1).drew
    have hb1 := k0.heap hb id
    have hb1d := kd.heap hb1 id
    have hPd := kd.heap hP id
    have HO1 := Hx (HDO.out _ (k0.trans kd))
    have HW1 := Hx (fun W' => HW.out _ W' (Dc.doX s.tx o) (Dc.doXErr s.tx o) (k0.trans kd))
    clear hP hb1 HDO HW p0
    refine wp_region_held_drew (S := fun W => W.cell? ⟨b, 2, none⟩ = some (.pointer (some ⟨bx, 0, none⟩)) ∧ W.heap[P]? = some (.cells (opArr o cv) 29 (0, 0))) Rx ⟨Cx hb1d 2, hPd⟩ (fun HS5 => ?_)
    generalize w1.drew = w1d at kd hb1d hPd HO1 HW1 HS5 ⊢
    refine Tx 0 ?_ ?_ ?_
    rotate_left
    focus
     intro wH hSw
     try simp only [Gx]
     try dsimp only at hSw
     go_simp
     try with_reducible rfl
    try simp only [Gx, Act.put, Sx]
    refine Tx 1 ?_ ?_ ?_
    rotate_left
    focus
     intro wH hSw
     try simp only [Gx]
     try dsimp only at hSw
     go_simp
     try with_reducible rfl
    try simp only [Gx, Act.put, Sx]
    refine Tx 2 ?_ ?_ ?_
    rotate_left
    focus
     intro wH hSw
     try simp only [Gx]
     try dsimp only at hSw
     go_simp
     try with_reducible rfl
    try simp only [Gx, Act.put, Sx]
    refine Tx 3 ?_ ?_ ?_
    rotate_left
    focus
     intro wH hSw
     try simp only [Gx]
     try dsimp only at hSw
     go_simp
     try with_reducible rfl
    try simp only [Gx, Act.put, Sx]
    refine wpAnyH_take (i := 4) (v := .agg (opArr o cv)) rfl Rx Rx Rx (fun _ _ _ h => h) (yieldsIf_load_all rfl _ _ rfl P _ 29 _ rfl (fun W h => h.2) Tryz.underlying29 rfl Rx) HS5 ?_
    simp only [Gx, Act.put, Sx]
    refine wpAnyH_ready (rs := [5]) Rx (by simp) ?_
    refine AllReadyH.cons rfl (fun K hK => ?_) ?_
    try simp only [Gx] at hK ⊢
    rotate_left
    exact AllReadyH.nil
    go_simp
    go_at_call 109
    (with_reducible refine HO1.out.mono ?_)
    rintro e w2 ⟨rfl, g1, g2⟩
    obtain ⟨k2, q1, q2⟩ := HW1.out w2 g1 g2
    have HFIN := Hx (HF.out w2 q1 q2)
    refine hK.out _ _ ⟨Cx (k2.heap hb1d (fun e => HB.out e.1)) 2, k2.heap hPd (fun e => by have := HLT.out _ e.1; omega)⟩ (fun HS6 => ?_)
    clear hK
    try simp only [Act.put, Sx]
    refine Tx 6 ?_ ?_ ?_
    rotate_left
    focus
     intro wH hSw
     try simp only [Gx]
     try dsimp only at hSw
     go_simp
     try with_reducible rfl
    try simp only [Gx, Act.put, Sx]
    refine wpAnyH_done Rx ?_ _
    go_wp2_with fail
    exact HFIN.out
  ·have he := HWE.out
   have hd := HWX.out
   rw [if_neg h1, if_neg hw] at he hd
   have HF : Hid (∀ W', Keeps No w W' → post (.returned (.int .i64 0)) W') := Hx fun W' k => HPOST.out _ _ _ _ he.symm hd.symm rfl (fun e => absurd rfl e) (fun _ => ⟨HK0.out W' k, k.any⟩)
   have b1 : (o.kind == 1) = false := by simp [h1]
   have b3 : (o.kind == 3) = false := by simp; omega
   have b5 : (o.kind == 5) = false := by simp; omega
   have b4 : (o.kind == 4) = false := by simp; omega
   clear h1 hw he hd HWE HWX HPOST HDO HOP HK0 HW
   go_enter Tryz.func68, Tryz.ntmps68
   go_upto_region 1 with (fail)
   have k0 : Keeps No w (w.alloc (.cells (opArr o cv) 29)) := (Keeps.refl No w).alloc _
   have hP := Nx w (.cells (opArr o cv) 29)
   generalize w.alloc (.cells (opArr o cv) 29) = w1 at k0 hP ⊢
   obtain ⟨P, eP⟩ : ∃ P, P = w.heap.size := ⟨_, rfl⟩
   rw [← eP] at hP ⊢
   have hPw : w.heap.size ≤ P := by omega
   clear eP
   have p0 := Cx hP 0
   go_wp2_with fail
   exact HF.out _ k0
end Go.Proofs.YthfjefcljeamgaaGreatDoor
