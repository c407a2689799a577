/- joined: The letters of blocks: each character that is not gone stands in just one block's text. How long the way above a block is. The plain model of the document: outlines by the document alone; a block with a text. -/
import Derived.Test.YthfjefcljeamgaaGreatDoorDcTxFull
namespace Dc
open Off (Bid rightOp rightBlock rightOp_iff)
def RC.opens (r : RC) : Bool := r.mark && !r.gone
def RC.shows (r : RC) : Bool := !r.mark && !r.gone
/-- each character with the block in whose stretch it stands -/
def owned : Bid → List RC → List (RC × Bid)
 | _, [] => []
 | w, r :: l => let v := if r.opens then r.c.op else w; (r, v) :: owned v l
theorem owned_map : ∀ (w : Bid) (l : List RC), (owned w l).map (·.1) = l
 | _, [] => rfl
 | w, r :: l => by simp only [owned, List.map_cons, owned_map]
theorem owned_run : ∀ (l : List RC) (m : List RC) (w v : Bid), (∀ r ∈ l, (if r.opens then r.c.op else w) = v) → l ≠ [] → (∀ r ∈ l, (if r.opens then r.c.op else v) = v) → owned w (l ++ m) = l.map (fun r => (r, v)) ++ owned v m
 | [], _, _, _, _, h, _ => absurd rfl h
 | [r], m, w, v, h1, _, _ => by
  have e := h1 r (by simp)
  simp only [List.cons_append, List.nil_append, owned, List.map_cons, List.map_nil]
  rw [e]
 | r :: q :: l, m, w, v, h1, _, h3 => by
  have e := h1 r (by simp)
  have ih := owned_run (q :: l) m v v (fun x hx => h3 x (List.mem_cons_of_mem _ hx)) (by simp) (fun x hx => h3 x (List.mem_cons_of_mem _ hx))
  show (r, if r.opens then r.c.op else w) :: owned (if r.opens then r.c.op else w) ((q :: l) ++ m) = (r, v) :: ((q :: l).map (fun r => (r, v)) ++ owned v m)
  rw [e, ih]
theorem flat1_opens {r : Run} {x : RC} (h : x ∈ flat1 r) : x.opens = r.opens ∧ x.c.op = r.op ∧ x.shows = r.shows := by
 obtain ⟨j, hj, rfl⟩ := flat1_mem.1 h
 exact ⟨rfl, rfl, rfl⟩
theorem pieces_flat : ∀ {row : Row} (w : Bid), RowOk row → (piecesR w row).flatMap (fun p => (flat1 p.run).map fun x => (x, p.owner)) = owned w (flat row)
 | [], _, _ => rfl
 | r :: l, w, h => by
  simp only [piecesR, List.flatMap_cons]
  rw [flat_cons, pieces_flat _ h.tail]
  obtain ⟨v, hv⟩ : ∃ v, v = if r.opens then r.op else w := ⟨_, rfl⟩
  rw [← hv]
  have hne : flat1 r ≠ [] := by
   intro e
   have h1 := flat1_length r
   rw [e] at h1
   have h2 := h.head.1
   simp only [List.length_nil] at h1
   omega
  rw [owned_run (flat1 r) (flat l) w v]
  ·intro x hx
   obtain ⟨h1, h2, _⟩ := flat1_opens hx
   rw [h1, h2, hv]
  ·exact hne
  ·intro x hx
   obtain ⟨h1, h2, _⟩ := flat1_opens hx
   rw [h1, h2, hv]
   split <;> rfl
/-- the letters of a block -/
def liveL (b : Bid) (l : List (RC × Bid)) : List RC := (l.filter fun p => decide (p.2 = b) && p.1.shows).map (·.1)
def liveOf (x : TX) (b : Bid) : List RC :=
 match segX x b with
 | none => []
 | some seg => match x.texts seg with
  | none => []
  | some t => liveL b (owned seg (flat t.row))
theorem filter_flatMap {α β : Type} (g : α → List β) (p : β → Bool) : ∀ l : List α, (l.flatMap g).filter p = l.flatMap fun a => (g a).filter p
 | [] => rfl
 | a :: l => by rw [List.flatMap_cons, List.filter_append, filter_flatMap g p l, List.flatMap_cons]
theorem live_pieces {row : Row} (h : RowOk row) (w b : Bid) {γ : Type} (g : RC → γ) :
  (liveL b (owned w (flat row))).map g = (stretchL b (piecesR w row)).flatMap fun p => if p.run.shows then (flat1 p.run).map g else [] := by
 unfold liveL
 rw [← pieces_flat w h, filter_flatMap]
 have : ∀ l : List Piece, (List.map g (List.map (·.1) (l.flatMap fun a => ((flat1 a.run).map fun x => (x, a.owner)).filter fun p => decide (p.2 = b) && p.1.shows))) = (stretchL b l).flatMap fun p => if p.run.shows then (flat1 p.run).map g else [] := by
  intro l
  induction l with
  | nil => rfl
  | cons p l ih =>
   rw [List.flatMap_cons, List.map_append, List.map_append, ih]
   unfold stretchL
   rw [List.filter_cons]
   have hall : ((flat1 p.run).map fun x => (x, p.owner)).filter (fun q => decide (q.2 = b) && q.1.shows) = if (decide (p.owner = b) && p.run.shows) = true then (flat1 p.run).map fun x => (x, p.owner) else [] := by
    split
    ·rename_i hh
     refine List.filter_eq_self.2 fun q hq => ?_
     obtain ⟨x, hx, rfl⟩ := List.mem_map.1 hq
     simp only [(flat1_opens hx).2.2]
     exact hh
    ·rename_i hh
     refine List.filter_eq_nil_iff.2 fun q hq => ?_
     obtain ⟨x, hx, rfl⟩ := List.mem_map.1 hq
     simp only [(flat1_opens hx).2.2]
     exact hh
   rw [hall]
   have hso : p.run.shows = true → p.run.opens = false := by
    unfold Run.shows Run.opens
    cases p.run.mark <;> simp
   by_cases h1 : p.owner = b
   ·cases h2 : p.run.shows with
    | true =>
     have h3 := hso h2
     simp [h1, h3, h2]
    | false =>
     cases h3 : p.run.opens <;> simp [h1, h2]
   ·simp [h1]
 exact this _
theorem text_flat (r : Run) : r.text = (flat1 r).map (·.b) := by
 unfold flat1
 have : ∀ (k : Nat) (t : Bs), t = (flatFrom r.op r.gone r.mark k t).map (·.b) := by
  intro k t
  induction t generalizing k with
  | nil => rfl
  | cons b t ih => simp only [flatFrom, List.map_cons]; rw [← ih]
 exact this _ _
theorem flatMap_if {α β : Type} {l : List α} {p : α → Bool} {g g' : α → List β} (h : ∀ a, g a = g' a) : (l.flatMap fun a => if p a then g a else []) = l.flatMap fun a => if p a then g' a else [] := by
 congr 1
 funext a
 rw [h a]
theorem text_eq {x : TX} {n : Nat} (hx : TxOk x n) (b : Bid) : textOf x b = (liveOf x b).map (·.b) := by
 unfold textOf stretch liveOf
 cases hs : segX x b with
 | none => rfl
 | some seg =>
  simp only
  unfold pieces
  cases ht : x.texts seg with
  | none => rfl
  | some t =>
   simp only
   rw [live_pieces (hx.row _ t ht).1 seg b]
   exact flatMap_if (p := fun a : Piece => a.run.shows) fun a => text_flat a.run
end Dc
namespace Dc
open Off (Bid rightOp rightBlock)
theorem way_chain {f : Places} {rk : Bid → Nat} (hr : Ranked f rk) {a : Bid} {l : List Bid} (h : WayIs f a l) : ∃ m : List Bid, m.length = l.length ∧ m.Nodup ∧ (∀ x ∈ m, f x ≠ none ∧ rk x ≤ rk a) := by
 induction h with
 | nil _ => exact ⟨[], rfl, List.nodup_nil, by simp⟩
 | @cons a p l hp _ ih =>
  obtain ⟨m, h1, h2, h3⟩ := ih
  have hlt := hr a p hp
  refine ⟨a :: m, by simp [h1], List.nodup_cons.2 ⟨fun e => by have := (h3 a e).2; omega, h2⟩, fun x hx => ?_⟩
  rcases List.mem_cons.1 hx with rfl | hx
  ·exact ⟨by rw [hp]; simp, Nat.le_refl _⟩
  ·exact ⟨(h3 x hx).1, by have := (h3 x hx).2; omega⟩
theorem way_len {f : Places} {rk : Bid → Nat} (hr : Ranked f rk) {dom : List Bid} (hd : ∀ a, f a ≠ none → a ∈ dom) (a : Bid) : (way f a).length ≤ dom.length := by
 obtain ⟨m, h1, h2, h3⟩ := way_chain hr (way_is hr a)
 rw [← h1]
 exact nodup_length_le h2 fun x hx => hd x (h3 x hx).1
theorem walk_len {f : Places} {L : Lists} {rk : Bid → Nat} (hk : KidsOk f L) (hr : Ranked f rk) {dom : List Bid} (hd : ∀ a, f a ≠ none → a ∈ dom) {n : Nat} {a : Bid} (h : Deep f rk n a) : (walkF n L a).length ≤ dom.length := by
 refine nodup_length_le (walk_nodup hk hr n a h) fun x hx => hd x ?_
 obtain ⟨p, hp, _⟩ := bel_cases.1 ((walk_mem hk hr n a h x).1 hx)
 rw [hp]; simp
end Dc
namespace Dc
open Off (Bid rightOp rightBlock rightOp_iff)
noncomputable def listsOf (f : Places) : Lists := open Classical in if h : ∃ L, KidsOk f L then Classical.choose h else fun _ => []
theorem listsOf_eq {f : Places} {L : Lists} (h : KidsOk f L) : listsOf f = L := by
 unfold listsOf
 have hex : ∃ L, KidsOk f L := ⟨L, h⟩
 rw [dif_pos hex]
 exact kids_unique (Classical.choose_spec hex) h
noncomputable def deepN (f : Places) : Nat := open Classical in if h : ∃ B, ∃ rk, Ranked f rk ∧ ∀ a, Deep f rk B a then Classical.choose h else 0
theorem deepN_ok {d : Doc} : ∃ rk, Ranked d.places rk ∧ ∀ a, Deep d.places rk (deepN d.places) a := by
 unfold deepN
 have hex : ∃ B, ∃ rk, Ranked d.places rk ∧ ∀ a, Deep d.places rk B a := by
  obtain ⟨rk, hr⟩ := replay_ranked d.ms
  obtain ⟨B, hB⟩ := deep_exists (f := d.places) (rk := rk) (dom := d.ms.map (·.block)) fun a ha => replay_dom ha
  exact ⟨B, rk, hr, fun a => hB B (Nat.le_refl _) a⟩
 rw [dif_pos hex]
 exact Classical.choose_spec hex
noncomputable def outD (d : Doc) (top : Bid) : List Block := outOf d (listsOf d.places) (deepN d.places) top
theorem live_len {x : TX} {n : Nat} (hx : TxOk x n) (b : Bid) : (liveOf x b).length ≤ 64 * n := by
 unfold liveOf
 cases h : segX x b with
 | none => simp
 | some seg =>
  simp only
  cases ht : x.texts seg with
  | none => simp
  | some t =>
   simp only
   unfold liveL
   rw [List.length_map]
   refine Nat.le_trans (List.length_filter_le _ _) ?_
   have h1 : (owned seg (flat t.row)).length = (flat t.row).length := by
    have := congrArg List.length (owned_map seg (flat t.row))
    rwa [List.length_map] at this
   rw [h1, flat_length]
   exact (hx.row seg t ht).2
theorem text_len {x : TX} {n : Nat} (hx : TxOk x n) (b : Bid) : (textOf x b).length ≤ 64 * n := by
 rw [text_eq hx, List.length_map]; exact live_len hx b
theorem row_len {x : TX} {n : Nat} (hx : TxOk x n) : ∀ seg t, x.texts seg = some t → t.row.length ≤ 64 * n := fun seg t ht => Nat.le_trans (hx.row seg t ht).1.len_le (hx.row seg t ht).2
/-! a block with a text -/
def aliveA : Op := ⟨1, ⟨0, 1⟩, 1, .z, .z, [97], .z, .z, .z, [], [], false⟩
def aliveB : Op := ⟨3, ⟨0, 2⟩, 2, .z, .z, [], ⟨0, 1⟩, .z, .z, [97, 98], [], false⟩
def aliveC : Op := ⟨1, ⟨0, 3⟩, 3, .z, ⟨0, 9⟩, [97], .z, .z, .z, [], [], false⟩
noncomputable def alive1 : Doc := Doc.new.act aliveA
noncomputable def alive2 : Doc := alive1.act aliveB
noncomputable def alive3 : Doc := alive2.act aliveC
theorem alive_a : Doc.new.err aliveA = 0 := by decide
theorem alive1_eq : alive1 = Doc.new.apply aliveA := by unfold alive1 Doc.act; rw [if_pos alive_a]
theorem alive_b : alive1.err aliveB = 0 := by rw [alive1_eq]; rfl
theorem alive2_eq : alive2 = (Doc.new.apply aliveA).apply aliveB := by unfold alive2 Doc.act; rw [if_pos alive_b, alive1_eq]
theorem alive_c : alive2.err aliveC = 13 := by rw [alive2_eq]; rfl
theorem alive3_eq : alive3 = alive2 := by unfold alive3 Doc.act; rw [if_neg (by rw [alive_c]; decide)]
theorem alive_has2 : alive2.has ⟨0, 2⟩ = true := by rw [alive2_eq]; rfl
theorem alive_has3 : alive2.has ⟨0, 3⟩ = false := by rw [alive2_eq]; rfl
theorem alive_there : alive2.there .t = true := by rw [alive2_eq]; rfl
theorem alive_ops : alive2.ops.length = 2 := by rw [alive2_eq]; rfl
theorem alive_places : alive2.places = setP noPlaces ⟨0, 1⟩ (some ⟨.z, [97]⟩) := by
 rw [alive2_eq]
 show replay [moveOf aliveA aliveA.id] = _
 show step noPlaces (moveOf aliveA aliveA.id) = _
 unfold step
 have h : allowed noPlaces (moveOf aliveA aliveA.id) = true := by
  unfold allowed
  rw [below_none rfl]
  rfl
 rw [if_pos h]
 rfl
theorem kids_none : KidsOk noPlaces (fun _ => []) := ⟨fun _ => List.Pairwise.nil, fun p c => by simp [noPlaces]⟩
theorem alive_out : outD alive2 .z = [⟨⟨0, 1⟩, 0, false, [97, 98]⟩] := by
 obtain ⟨rk, hr, hdeep⟩ := deepN_ok (d := alive2)
 have hfull : DocFull alive2 := (DocFull.new.act aliveA).act aliveB
 have hk0 := add_ok (b := (⟨0, 1⟩ : Bid)) (p := ⟨.z, [97]⟩) kids_none rfl
 rw [← alive_places] at hk0
 have hL := listsOf_eq hk0
 have hk := hk0
 rw [← hL] at hk
 have hbel : ∀ x, Bel alive2.places x .z ↔ x = ⟨0, 1⟩ := fun x => by
  rw [bel_cases, alive_places]
  constructor
  ·rintro ⟨p, hp, _⟩
   unfold setP at hp
   split at hp
   ·assumption
   ·cases hp
  ·rintro rfl
   exact ⟨⟨.z, [97]⟩, rfl, .inl rfl⟩
 have hw : walkF (deepN alive2.places) (listsOf alive2.places) .z = [⟨0, 1⟩] := by
  have h1 := walk_mem hk hr _ .z (hdeep .z)
  have h2 := walk_nodup hk hr _ .z (hdeep .z)
  generalize walkF (deepN alive2.places) (listsOf alive2.places) .z = l at h1 h2
  have hm : ∀ x, x ∈ l ↔ x = ⟨0, 1⟩ := fun x => (h1 x).trans (hbel x)
  match l, hm, h2 with
  | [], hm, _ => exact absurd ((hm ⟨0, 1⟩).2 rfl) (by simp)
  | [a], hm, _ => rw [(hm a).1 (by simp)]
  | a :: b :: l, hm, h2 =>
   have ha := (hm a).1 (by simp)
   have hb := (hm b).1 (by simp)
   rw [ha, hb] at h2
   simp at h2
 have hp : alive2.places ⟨0, 1⟩ = some ⟨.z, [97]⟩ := by rw [alive_places]; rfl
 have hdep : depthOf alive2.places ⟨0, 1⟩ .z = 0 := by rw [depth_step hr hp, if_pos rfl]
 have hfold : foldOf alive2.words ⟨0, 1⟩ = false := by rw [alive2_eq]; rfl
 have htext : textOf alive2.tx ⟨0, 1⟩ = [97, 98] := by
  rw [text_eq hfull.tx]
  have ht : alive2.tx.texts ⟨0, 1⟩ = some (insY YT.new aliveB) := by rw [alive2_eq]; rfl
  have hnew : alive1.tx.texts ⟨0, 1⟩ = some YT.new := by rw [alive1_eq]; rfl
  have hfl : flat (insY YT.new aliveB).row = flat1 (itemOf aliveB) := by
   obtain ⟨_, k, _, h3⟩ := insY_full (t := YT.new) NodesOk.new RowFull.new RowOk.nil (o := aliveB) (by decide) (by decide) (by decide) (by decide) (fun c hc => by
    unfold YT.new
    simp only
    rw [if_neg]
    intro e
    rw [e] at hc
    exact absurd hc (by decide))
   rw [h3]
   simp [YT.new, flat]
  have hseg : segX alive2.tx ⟨0, 1⟩ = some ⟨0, 1⟩ := by unfold segX; rw [ht]; rfl
  unfold liveOf
  rw [hseg]
  simp only
  rw [ht]
  simp only
  rw [hfl]
  decide
 unfold outD outOf
 rw [hw]
 simp only [List.map_cons, List.map_nil]
 rw [hdep, hfold, htext]
 rfl
end Dc
