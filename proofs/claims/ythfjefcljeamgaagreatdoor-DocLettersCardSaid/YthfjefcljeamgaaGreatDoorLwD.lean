/- joined: The statements of the document: outlines compared. The statements of the document: the document's methods by the plain document alone. -/
import Derived.Test.YthfjefcljeamgaaGreatDoorLwB
import Derived.Test.YthfjefcljeamgaaGreatDoorDcLaw
namespace Go.Proofs.YthfjefcljeamgaaGreatDoor
set_option maxRecDepth 100000
set_option maxHeartbeats 4000000
section
open Go.RowKit
attribute [local go_sem ↓] Go.wp_at_zero Go.wp_at_succ
theorem Lies.blockO {l : List Dc.Block} {w : World} {ao : Option Addr} {n c : Nat} (h : Lies 5 blockCells (.slice ao n c) l w) {k : Nat} (hk : k < l.length) : ∃ g o, ao = some ⟨g, o, none⟩ ∧ w.cell? ⟨g, o + k * 5, none⟩ = some (.int .i64 (l[k]'hk).id.R) ∧ w.cell? ⟨g, o + k * 5 + 1, none⟩ = some (.int .i64 (l[k]'hk).id.N) ∧
  w.cell? ⟨g, o + k * 5 + 2, none⟩ = some (.int .i64 (l[k]'hk).depth) ∧ w.cell? ⟨g, o + k * 5 + 3, none⟩ = some (.bool (l[k]'hk).fold) ∧ w.cell? ⟨g, o + k * 5 + 4, none⟩ = some (.string ⟨(l[k]'hk).text.toArray⟩) := by
 obtain ⟨_, ao', c', e, _, _, h3⟩ := h
 obtain ⟨g, o, rfl, _, h5⟩ := h3 (by intro e; rw [e] at hk; simp at hk)
 injection e with e1 e2 e3
 subst e1
 exact ⟨g, o, rfl, h5 k hk 0 (by decide), h5 k hk 1 (by decide), h5 k hk 2 (by decide), h5 k hk 3 (by decide), h5 k hk 4 (by decide)⟩
theorem Lies.form {α : Type} {m : Nat} {f : α → List Value} {v : Value} {l : List α} {w : World} (h : Lies m f v l w) : ∃ ao c, v = .slice ao l.length c ∧ l.length ≤ maxLen := by
 obtain ⟨h0, ao, c, e, _⟩ := h
 exact ⟨ao, c, e, h0⟩
theorem bytes_ne {a b : List UInt8} (h : a ≠ b) : ¬ (ByteArray.mk a.toArray = ByteArray.mk b.toArray) := fun e => h (by
 have := congrArg ByteArray.data e
 simpa using this)
theorem sameBlocks_any (va vb : Value) (la lb : List Dc.Block) (w : World) (h1 : Lies 5 blockCells va la w) (h2 : Lies 5 blockCells vb lb w) :
  Calls Tryz.prog 23 #[va, vb] w (BoolPost (decide (la = lb)) w) := by
 obtain ⟨a1, c1, rfl, m1⟩ := h1.form
 obtain ⟨a2, c2, rfl, m2⟩ := h2.form
 have H1 := Hx h1
 have H2 := Hx h2
 have hl1 : la.length ≤ 9223372036854775807 := m1
 have hl2 : lb.length ≤ 9223372036854775807 := m2
 have HP : Hid (∀ r w', decide (la = lb) = r → Keeps No w w' → BoolPost (decide (la = lb)) w (.returned (.bool r)) w') := Hx fun r w' e k => ⟨by rw [e], k⟩
 generalize BoolPost (decide (la = lb)) w = post at HP ⊢
 clear h1 h2 m1 m2
 by_cases hlen : la.length = lb.length
 rotate_left
 ·have HQ := Hx (HP.out false w (decide_eq_false fun e => hlen (by rw [e])) (Keeps.refl _ _))
  have hI : ¬ (la.length : Int) = (lb.length : Int) := by omega
  clear hlen
  go_enter Tryz.func23, Tryz.ntmps23
  go_wp2_with fail
  exact HQ.out
 have HLEN := Hx hlen
 rw [← hlen] at H2 ⊢
 clear hlen hl2
 go_enter Tryz.func23, Tryz.ntmps23
 go_wp2_with fail
 go_loopg [5] la.length (fun kx s5 wr => ∃ k : Nat, s5 = .int .i64 k ∧ k ≤ la.length ∧ la.length - k ≤ kx ∧ Hid (la.take k = lb.take k) ∧ Keeps No w wr)
 case atStart => exact ⟨0, rfl, Nat.zero_le _, Nat.le_refl _, Hx rfl, Keeps.refl _ _⟩
 case round =>
  obtain ⟨k, rfl, hk, hkx, htk, kr⟩ := hrel
  by_cases hlt : k < la.length
  ·have hlt2 : k < lb.length := by have := HLEN.out; omega
   obtain ⟨ga, oa, rfl, x0, x1, x2, x3, x4⟩ := (H1.out.no kr).blockO hlt
   obtain ⟨gb, ob, rfl, y0, y1, y2, y3, y4⟩ := (H2.out.no kr).blockO hlt2
   have HNE : Hid (la[k]'hlt ≠ lb[k]'hlt2 → decide (la = lb) = false) := Hx fun h => decide_eq_false fun e => h (by simp only [e])
   have HTK : Hid (la[k]'hlt = lb[k]'hlt2 → Hid (la.take (k + 1) = lb.take (k + 1))) := Hx fun h => Hx (by rw [List.take_add_one, List.take_add_one, List.getElem?_eq_getElem hlt, List.getElem?_eq_getElem hlt2, htk.out, h])
   obtain ⟨⟨⟨xR, xN⟩, xD, xF, xT⟩, hx⟩ : ∃ x, x = la[k]'hlt := ⟨_, rfl⟩
   obtain ⟨⟨⟨yR, yN⟩, yD, yF, yT⟩, hy⟩ : ∃ y, y = lb[k]'hlt2 := ⟨_, rfl⟩
   rw [← hx] at x0 x1 x2 x3 x4 HNE HTK
   rw [← hy] at y0 y1 y2 y3 y4 HNE HTK
   simp only at x0 x1 x2 x3 x4 y0 y1 y2 y3 y4
   have kI0 : (0 : Int) ≤ (k : Int) := by omega
   have kI1 : (k : Int) < (la.length : Int) := by omega
   have kd : Keeps No wr wr.drew := (Keeps.refl No wr).drew
   have HSA : Hid (∀ W : World, Keeps No wr W → W.cell? ⟨ga, oa + k * 5, none⟩ = some (.int .i64 xR) ∧ W.cell? ⟨ga, oa + k * 5 + 1, none⟩ = some (.int .i64 xN) ∧ W.cell? ⟨ga, oa + k * 5 + 2, none⟩ = some (.int .i64 xD) ∧ W.cell? ⟨ga, oa + k * 5 + 3, none⟩ = some (.bool xF) ∧ W.cell? ⟨ga, oa + k * 5 + 4, none⟩ = some (.string ⟨xT.toArray⟩) ∧ W.cell? ⟨gb, ob + k * 5, none⟩ = some (.int .i64 yR) ∧ W.cell? ⟨gb, ob + k * 5 + 1, none⟩ = some (.int .i64 yN) ∧ W.cell? ⟨gb, ob + k * 5 + 2, none⟩ = some (.int .i64 yD) ∧ W.cell? ⟨gb, ob + k * 5 + 3, none⟩ = some (.bool yF) ∧ W.cell? ⟨gb, ob + k * 5 + 4, none⟩ = some (.string ⟨yT.toArray⟩)) := Hx fun W k => ⟨k.cellOf x0 id, k.cellOf x1 id, k.cellOf x2 id, k.cellOf x3 id, k.cellOf x4 id, k.cellOf y0 id, k.cellOf y1 id, k.cellOf y2 id, k.cellOf y3 id, k.cellOf y4 id⟩
   have HQF : Hid (decide (la = lb) = false → post (.returned (.bool false)) wr.drew) := Hx fun e => HP.out false wr.drew e (kr.trans kd)
   clear hx hy x0 x1 x2 x3 x4 y0 y1 y2 y3 y4 htk
   go_upto_region 6 with (fail)
   by_cases e0 : xR = yR
   rotate_left
   ·have HQ := Hx (HQF.out (HNE.out fun e => e0 (by injection e with e _; injection e)))
    go_region_held3 (fun W => W.cell? ⟨ga, oa + k * 5, none⟩ = some (.int .i64 xR) ∧ W.cell? ⟨ga, oa + k * 5 + 1, none⟩ = some (.int .i64 xN) ∧ W.cell? ⟨ga, oa + k * 5 + 2, none⟩ = some (.int .i64 xD) ∧ W.cell? ⟨ga, oa + k * 5 + 3, none⟩ = some (.bool xF) ∧ W.cell? ⟨ga, oa + k * 5 + 4, none⟩ = some (.string ⟨xT.toArray⟩) ∧ W.cell? ⟨gb, ob + k * 5, none⟩ = some (.int .i64 yR) ∧ W.cell? ⟨gb, ob + k * 5 + 1, none⟩ = some (.int .i64 yN) ∧ W.cell? ⟨gb, ob + k * 5 + 2, none⟩ = some (.int .i64 yD) ∧ W.cell? ⟨gb, ob + k * 5 + 3, none⟩ = some (.bool yF) ∧ W.cell? ⟨gb, ob + k * 5 + 4, none⟩ = some (.string ⟨yT.toArray⟩)) (exact HSA.out _ (kd)) (fail)
    all_goals
     go_wp2_with fail
     exact HQ.out
   subst e0
   by_cases e1 : xN = yN
   rotate_left
   ·have HQ := Hx (HQF.out (HNE.out fun e => e1 (by injection e with e _; injection e)))
    go_region_held3 (fun W => W.cell? ⟨ga, oa + k * 5, none⟩ = some (.int .i64 xR) ∧ W.cell? ⟨ga, oa + k * 5 + 1, none⟩ = some (.int .i64 xN) ∧ W.cell? ⟨ga, oa + k * 5 + 2, none⟩ = some (.int .i64 xD) ∧ W.cell? ⟨ga, oa + k * 5 + 3, none⟩ = some (.bool xF) ∧ W.cell? ⟨ga, oa + k * 5 + 4, none⟩ = some (.string ⟨xT.toArray⟩) ∧ W.cell? ⟨gb, ob + k * 5, none⟩ = some (.int .i64 xR) ∧ W.cell? ⟨gb, ob + k * 5 + 1, none⟩ = some (.int .i64 yN) ∧ W.cell? ⟨gb, ob + k * 5 + 2, none⟩ = some (.int .i64 yD) ∧ W.cell? ⟨gb, ob + k * 5 + 3, none⟩ = some (.bool yF) ∧ W.cell? ⟨gb, ob + k * 5 + 4, none⟩ = some (.string ⟨yT.toArray⟩)) (exact HSA.out _ (kd)) (fail)
    all_goals
     go_wp2_with fail
     exact HQ.out
   subst e1
   by_cases e2 : xD = yD
   rotate_left
   ·have HQ := Hx (HQF.out (HNE.out fun e => e2 (by injection e)))
    go_region_held3 (fun W => W.cell? ⟨ga, oa + k * 5, none⟩ = some (.int .i64 xR) ∧ W.cell? ⟨ga, oa + k * 5 + 1, none⟩ = some (.int .i64 xN) ∧ W.cell? ⟨ga, oa + k * 5 + 2, none⟩ = some (.int .i64 xD) ∧ W.cell? ⟨ga, oa + k * 5 + 3, none⟩ = some (.bool xF) ∧ W.cell? ⟨ga, oa + k * 5 + 4, none⟩ = some (.string ⟨xT.toArray⟩) ∧ W.cell? ⟨gb, ob + k * 5, none⟩ = some (.int .i64 xR) ∧ W.cell? ⟨gb, ob + k * 5 + 1, none⟩ = some (.int .i64 xN) ∧ W.cell? ⟨gb, ob + k * 5 + 2, none⟩ = some (.int .i64 yD) ∧ W.cell? ⟨gb, ob + k * 5 + 3, none⟩ = some (.bool yF) ∧ W.cell? ⟨gb, ob + k * 5 + 4, none⟩ = some (.string ⟨yT.toArray⟩)) (exact HSA.out _ (kd)) (fail)
    all_goals
     go_wp2_with fail
     exact HQ.out
   subst e2
   by_cases e3 : xF = yF
   rotate_left
   ·have HQ := Hx (HQF.out (HNE.out fun e => e3 (by injection e)))
    go_region_held3 (fun W => W.cell? ⟨ga, oa + k * 5, none⟩ = some (.int .i64 xR) ∧ W.cell? ⟨ga, oa + k * 5 + 1, none⟩ = some (.int .i64 xN) ∧ W.cell? ⟨ga, oa + k * 5 + 2, none⟩ = some (.int .i64 xD) ∧ W.cell? ⟨ga, oa + k * 5 + 3, none⟩ = some (.bool xF) ∧ W.cell? ⟨ga, oa + k * 5 + 4, none⟩ = some (.string ⟨xT.toArray⟩) ∧ W.cell? ⟨gb, ob + k * 5, none⟩ = some (.int .i64 xR) ∧ W.cell? ⟨gb, ob + k * 5 + 1, none⟩ = some (.int .i64 xN) ∧ W.cell? ⟨gb, ob + k * 5 + 2, none⟩ = some (.int .i64 xD) ∧ W.cell? ⟨gb, ob + k * 5 + 3, none⟩ = some (.bool yF) ∧ W.cell? ⟨gb, ob + k * 5 + 4, none⟩ = some (.string ⟨yT.toArray⟩)) (exact HSA.out _ (kd)) (fail)
    all_goals
     go_wp2_with fail
     exact HQ.out
   subst e3
   by_cases e4 : xT = yT
   rotate_left
   ·have HQ := Hx (HQF.out (HNE.out fun e => e4 (by injection e)))
    have e5 := bytes_ne e4
    go_region_held3 (fun W => W.cell? ⟨ga, oa + k * 5, none⟩ = some (.int .i64 xR) ∧ W.cell? ⟨ga, oa + k * 5 + 1, none⟩ = some (.int .i64 xN) ∧ W.cell? ⟨ga, oa + k * 5 + 2, none⟩ = some (.int .i64 xD) ∧ W.cell? ⟨ga, oa + k * 5 + 3, none⟩ = some (.bool xF) ∧ W.cell? ⟨ga, oa + k * 5 + 4, none⟩ = some (.string ⟨xT.toArray⟩) ∧ W.cell? ⟨gb, ob + k * 5, none⟩ = some (.int .i64 xR) ∧ W.cell? ⟨gb, ob + k * 5 + 1, none⟩ = some (.int .i64 xN) ∧ W.cell? ⟨gb, ob + k * 5 + 2, none⟩ = some (.int .i64 xD) ∧ W.cell? ⟨gb, ob + k * 5 + 3, none⟩ = some (.bool xF) ∧ W.cell? ⟨gb, ob + k * 5 + 4, none⟩ = some (.string ⟨yT.toArray⟩)) (exact HSA.out _ (kd)) (fail)
    all_goals
     go_wp2_with fail
     exact HQ.out
   subst e4
   go_region_held3 (fun W => W.cell? ⟨ga, oa + k * 5, none⟩ = some (.int .i64 xR) ∧ W.cell? ⟨ga, oa + k * 5 + 1, none⟩ = some (.int .i64 xN) ∧ W.cell? ⟨ga, oa + k * 5 + 2, none⟩ = some (.int .i64 xD) ∧ W.cell? ⟨ga, oa + k * 5 + 3, none⟩ = some (.bool xF) ∧ W.cell? ⟨ga, oa + k * 5 + 4, none⟩ = some (.string ⟨xT.toArray⟩) ∧ W.cell? ⟨gb, ob + k * 5, none⟩ = some (.int .i64 xR) ∧ W.cell? ⟨gb, ob + k * 5 + 1, none⟩ = some (.int .i64 xN) ∧ W.cell? ⟨gb, ob + k * 5 + 2, none⟩ = some (.int .i64 xD) ∧ W.cell? ⟨gb, ob + k * 5 + 3, none⟩ = some (.bool xF) ∧ W.cell? ⟨gb, ob + k * 5 + 4, none⟩ = some (.string ⟨xT.toArray⟩)) (exact HSA.out _ (kd)) (fail)
   all_goals
    go_wp2_with fail
    go_roundg (la.length - (k + 1))
    case measure => omega
    case rel => exact ⟨k + 1, by go_num, hlt, Nat.le_refl _, HTK.out (by trivial), kr.trans kd⟩
  ·obtain rfl : k = la.length := by omega
   have hEq : la = lb := by
    have h := htk.out
    rw [List.take_length] at h
    rw [HLEN.out, List.take_length] at h
    exact h
   have HQ := Hx (HP.out true wr (decide_eq_true hEq) kr)
   clear hEq
   go_wp2_with fail
   exact HQ.out
end
section
open Go.RowKit
attribute [local go_sem ↓] Go.wp_at_zero Go.wp_at_succ
theorem docIs_new {F : Nat → Prop} {b : Nat} {w : World} (h : DocC F b DSt.new w) : DocIs F b Dc.Doc.new w :=
 ⟨DSt.new, h, ⟨rfl, Dc.kids_none, ⟨fun x => ⟨fun e => absurd rfl e, fun ⟨s, hs, _⟩ => by cases hs⟩, fun x n e => by cases e⟩, rfl, List.Pairwise.nil, fun m hm => by cases hm⟩, rfl, rfl, rfl, rfl, rfl⟩
def LawNewPost (w : World) (e : Ending) (w' : World) : Prop := ∃ b, e = .returned (.pointer (some ⟨b, 0, none⟩)) ∧ DocIs (Above w.heap.size) b Dc.Doc.new w' ∧ Keeps No w w'
theorem lawNew_any (w : World) : Calls Tryz.prog 18 #[] w (LawNewPost w) := by
 refine (docNew_any w).mono ?_
 rintro e w' ⟨b, rfl, h1, h2⟩
 exact ⟨b, rfl, docIs_new h1, h2⟩
def LawDoPost (base b : Nat) (er : Int) (d' : Dc.Doc) (w : World) (e : Ending) (w' : World) : Prop := e = .returned (.int .i64 er) ∧ Keeps (Above base) w w' ∧ DocIs (Above base) b d' w'
theorem lawDo_any {base b : Nat} {d : Dc.Doc} {w : World} (h4 : 4 ≤ base) (hb : base ≤ w.heap.size) (h : DocIs (Above base) b d w) (hf : Dc.DocFull d) (hn : d.ops.length ≤ 14000) (hE : Env w) (o : Dc.Op) (cv : Value) (hcv : Lies 4 cutCells cv o.cuts w) (hcF : o.cuts ≠ [] → ∀ g, cv.ownBlock = some g → g < base) (hcz : o.cuts.length ≤ 1000000) (hsz : o.text.length ≤ 1000000000) :
  Calls Tryz.prog 19 #[.pointer (some ⟨b, 0, none⟩), opV o cv] w (LawDoPost base b (d.err o) (d.act o) w) := by
 have h' : DocIs (fun g => base ≤ g ∧ g < w.heap.size) b d w := h.mono fun g hg hl => ⟨hg, hl⟩
 refine (docDo_low h' hf hn (fun g hg => ⟨by omega, hg.2⟩) hE o cv hcv (fun hne g hg => ⟨fun e => by have := hcF hne g hg; omega, by have := hcF hne g hg; omega⟩) hcz hsz).mono ?_
 rintro e w' ⟨rfl, k, hd⟩
 exact ⟨rfl, k.mono fun g hg _ => hg.1.1, hd.mono fun g hg _ => hg.elim (fun e => e.1) fun e => Nat.le_trans hb e⟩
def LawDoFPost (F : Nat → Prop) (b : Nat) (er : Int) (d' : Dc.Doc) (w : World) (e : Ending) (w' : World) : Prop := e = .returned (.int .i64 er) ∧ Keeps F w w' ∧ DocIs (Grow F w) b d' w'
theorem lawDoF_any {F : Nat → Prop} {b : Nat} {d : Dc.Doc} {w : World} (hF4 : ∀ g, F g → 4 ≤ g) (h : DocIs F b d w) (hf : Dc.DocFull d) (hn : d.ops.length ≤ 14000) (hE : Env w) (o : Dc.Op) (cv : Value) (hcv : Lies 4 cutCells cv o.cuts w) (hcF : o.cuts ≠ [] → ∀ g, cv.ownBlock = some g → ¬ F g ∧ g < w.heap.size) (hcz : o.cuts.length ≤ 1000000) (hsz : o.text.length ≤ 1000000000) :
  Calls Tryz.prog 19 #[.pointer (some ⟨b, 0, none⟩), opV o cv] w (LawDoFPost F b (d.err o) (d.act o) w) := by
 have h' : DocIs (fun g => F g ∧ g < w.heap.size) b d w := h.mono fun g hg hl => ⟨hg, hl⟩
 refine (docDo_low h' hf hn (fun g hg => ⟨hF4 g hg.1, hg.2⟩) hE o cv hcv (fun hne g hg => ⟨fun e => (hcF hne g hg).1 e.1, (hcF hne g hg).2⟩) hcz hsz).mono ?_
 rintro e w' ⟨rfl, k, hd⟩
 exact ⟨rfl, k.mono fun g hg _ => hg.1.1, hd.mono fun g hg _ => hg.imp (fun e => e.1) id⟩
theorem lawOut_any {F : Nat → Prop} {b : Nat} {d : Dc.Doc} {w : World} (h : DocIs F b d w) (hf : Dc.DocFull d) (hn : d.ops.length ≤ 14000) (top : Off.Bid) :
  Calls Tryz.prog 20 #[.pointer (some ⟨b, 0, none⟩), idV top] w (OutPost (Dc.outD d top) w) := by
 obtain ⟨s, hC, hT, h1, h2, h3, h4, h5⟩ := h
 have hf' : s.f = d.places := by rw [hT.places, h4]; rfl
 obtain ⟨rk, hr, hdeep⟩ := Dc.deepN_ok (d := d)
 have hL : s.L = Dc.listsOf d.places := (Dc.listsOf_eq (hf' ▸ hT.kids)).symm
 have hdom : ∀ a, d.places a ≠ none → a ∈ d.ms.map (·.block) := fun a ha => Dc.replay_dom ha
 have hdl : (d.ms.map (·.block)).length ≤ 1000000 := by rw [List.length_map]; have := hf.len; omega
 have hg : s.g = d.places := hT.same.trans hf'
 have hout : outS s (Dc.deepN d.places) top = Dc.outD d top := by
  unfold outS Dc.outD Dc.outOf
  rw [hL, hf', h3, h5]
 rw [← hout]
 exact docOutline_any hC (hg ▸ hf' ▸ hT.kids) rk (hf' ▸ hr) (hg ▸ hr) _ (hg ▸ hdom) hdl top _ (hg ▸ hdeep top) (fun a => by rw [hf']; exact Nat.le_trans (Dc.way_len hr hdom a) hdl)
  (fun seg t ht => by rw [h3] at ht; have := Dc.row_len hf.tx seg t ht; omega) (fun a => by rw [h3]; have := Dc.text_len hf.tx a; omega)
theorem lawHas_any {F : Nat → Prop} {b : Nat} {d : Dc.Doc} {w : World} (h : DocIs F b d w) (a : Off.Bid) :
  Calls Tryz.prog 22 #[.pointer (some ⟨b, 0, none⟩), idV a] w (BoolPost (d.has a) w) := by
 obtain ⟨s, hC, hT, h1, h2, h3, h4, h5⟩ := h
 have := docHas_any hC a
 rw [h2] at this
 exact this
theorem lawThere_any {F : Nat → Prop} {b : Nat} {d : Dc.Doc} {w : World} (h : DocIs F b d w) (hE : Env w) (a : Off.Bid) :
  Calls Tryz.prog 25 #[.pointer (some ⟨b, 0, none⟩), idV a] w (BoolPost (d.there a) w) := by
 obtain ⟨s, hC, hT, h1, h2, h3, h4, h5⟩ := h
 have := docThere_any hC hE a
 rw [h2] at this
 exact this
theorem ok_cuts {o : Dc.Op} (h : o.ok = true) : o.cuts.length ≤ 16 := by
 by_cases h4 : o.kind = 4
 ·have hp := (Dc.ok_parts h).2.2.1
  unfold Dc.Op.parts at hp
  rw [if_neg (by omega), if_neg (by omega), if_neg (by omega), if_pos h4] at hp
  unfold Dc.rCuts at hp
  simp only [Bool.and_eq_true, decide_eq_true_eq] at hp
  exact hp.1.2
 ·rw [Dc.own_cuts h h4]; simp
def LenPost (n : Nat) (w : World) (e : Ending) (w' : World) : Prop := ∃ a c, e = .returned (.slice a n c) ∧ Keeps No w w'
theorem lawOpsLen_any {F : Nat → Prop} {b : Nat} {d : Dc.Doc} {w : World} (h : DocIs F b d w) (hf : Dc.DocFull d) (hn : d.ops.length ≤ 14000) :
  Calls Tryz.prog 21 #[.pointer (some ⟨b, 0, none⟩)] w (LenPost d.ops.length w) := by
 obtain ⟨s, hC, hT, h1, h2, h3, h4, h5⟩ := h
 refine (docOps_any hC (by rw [h1]; omega) fun o ho => Nat.le_trans (ok_cuts (hf.ops o (h1 ▸ ho))) (by decide)).mono ?_
 rintro e w' ⟨v, rfl, ho, k⟩
 obtain ⟨ao, c, rfl, _⟩ := ho.form
 exact ⟨ao, c, by rw [h1], k⟩
end
end Go.Proofs.YthfjefcljeamgaaGreatDoor
