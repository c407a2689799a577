/- joined: What is below a block, in order: each block once. Outlines: each block behind its parent, one deeper than that. The characters of a text's row are those of its tree; what each shows; which are gone. What the characters of all texts show, and which are gone, by the ops that were done. -/
import Derived.Test.YthfjefcljeamgaaGreatDoorDcTx
namespace Dc
open Off (Bid rightOp rightBlock)
/-- a is b, or stands below it -/
def BelE (f : Places) (a b : Bid) : Prop := a = b ∨ Bel f a b
theorem bel_irrefl {f : Places} {rk : Bid → Nat} (h : Ranked f rk) {a : Bid} : ¬ Bel f a a := fun e => Nat.lt_irrefl _ (bel_rank h e)
theorem bel_chain {f : Places} {x y z : Bid} (h : Bel f x y) (h' : Bel f x z) : y = z ∨ Bel f y z ∨ Bel f z y := by
 induction h with
 | one hx =>
  obtain ⟨p, hp, h2⟩ := bel_cases.1 h'
  rw [hx] at hp; cases hp
  rcases h2 with h2 | h2
  ·exact .inl h2
  ·exact .inr (.inl h2)
 | more hx hb ih =>
  obtain ⟨p, hp, h2⟩ := bel_cases.1 h'
  rw [hx] at hp; cases hp
  rcases h2 with h2 | h2
  ·subst h2; exact .inr (.inr hb)
  ·exact ih h2
theorem belE_chain {f : Places} {x y z : Bid} (h : BelE f x y) (h' : BelE f x z) : y = z ∨ Bel f y z ∨ Bel f z y := by
 rcases h with rfl | h
 ·rcases h' with rfl | h'
  ·exact .inl rfl
  ·exact .inr (.inl h')
 ·rcases h' with rfl | h'
  ·exact .inr (.inr h)
  ·exact bel_chain h h'
theorem belE_parent {f : Places} {x b : Bid} {p : Place} (h : f x = some p) : Bel f x b ↔ BelE f p.parent b := by
 rw [bel_cases]
 constructor
 ·rintro ⟨q, hq, h2⟩
  rw [h] at hq; cases hq
  exact h2
 ·intro h2; exact ⟨p, h, h2⟩
/-- two children of one block have nothing below in common -/
theorem belE_sibling {f : Places} {rk : Bid → Nat} (hr : Ranked f rk) {x c d : Bid} {p q : Place} (hc : f c = some p) (hd : f d = some q) (he : p.parent = q.parent) (h1 : BelE f x c) (h2 : BelE f x d) : c = d := by
 rcases belE_chain h1 h2 with h | h | h
 ·exact h
 ·exfalso
  have h3 := (belE_parent hc).1 h
  have h4 : Bel f d q.parent := .one hd
  rcases h3 with h3 | h3
  ·rw [← h3, he] at h4; exact bel_irrefl hr h4
  ·rw [he] at h3; exact bel_irrefl hr (bel_trans h3 h4)
 ·exfalso
  have h3 := (belE_parent hd).1 h
  have h4 : Bel f c p.parent := .one hc
  rcases h3 with h3 | h3
  ·rw [← h3, ← he] at h4; exact bel_irrefl hr h4
  ·rw [← he] at h3; exact bel_irrefl hr (bel_trans h3 h4)
def walkF : Nat → Lists → Bid → List Bid
 | 0, _, _ => []
 | n + 1, L, a => (L a).flatMap fun c => c.id :: walkF n L c.id
/-- n rounds are enough below a -/
def Deep (f : Places) (rk : Bid → Nat) (n : Nat) (a : Bid) : Prop := ∀ x, f x ≠ none → rk x ≤ rk a + n
theorem Deep.none {f : Places} {L : Lists} {rk : Bid → Nat} (hk : KidsOk f L) (hr : Ranked f rk) {a : Bid} (h : Deep f rk 0 a) : L a = [] := by
 cases hl : L a with
 | nil => rfl
 | cons c t =>
  have hc : f c.id = some ⟨a, c.key⟩ := (hk.mem a c).1 (by rw [hl]; simp)
  have h1 := hr _ _ hc
  have h2 := h c.id (by rw [hc]; simp)
  simp only at h1
  omega
theorem Deep.child {f : Places} {L : Lists} {rk : Bid → Nat} (hk : KidsOk f L) (hr : Ranked f rk) {n : Nat} {a : Bid} (h : Deep f rk (n + 1) a) {c : Child} (hc : c ∈ L a) : Deep f rk n c.id := by
 intro x hx
 have h1 := hr _ _ ((hk.mem a c).1 hc)
 have h2 := h x hx
 simp only at h1
 omega
theorem walk_mem {f : Places} {L : Lists} {rk : Bid → Nat} (hk : KidsOk f L) (hr : Ranked f rk) : ∀ (n : Nat) (a : Bid), Deep f rk n a → ∀ x, x ∈ walkF n L a ↔ Bel f x a
 | 0, a, hd, x => by
  have hl := hd.none hk hr
  unfold walkF
  constructor
  ·intro h; simp at h
  ·intro h
   exfalso
   -- some block just below a
   have : ∀ {x b : Bid}, Bel f x b → ∃ c p, f c = some p ∧ p.parent = b := by
    intro x b h
    induction h with
    | one h => exact ⟨_, _, h, rfl⟩
    | more _ _ ih => exact ih
   obtain ⟨c, p, h1, h2⟩ := this h
   have h3 : (⟨p.key, c⟩ : Child) ∈ L a := (hk.mem a ⟨p.key, c⟩).2 (by rw [h1, ← h2])
   rw [hl] at h3; cases h3
 | n + 1, a, hd, x => by
  unfold walkF
  simp only [List.mem_flatMap, List.mem_cons]
  constructor
  ·rintro ⟨c, hc, rfl | h⟩
   ·have := (hk.mem a c).1 hc
    exact .one this
   ·have h1 := (walk_mem hk hr n c.id (hd.child hk hr hc) x).1 h
    have h2 : Bel f c.id a := .one ((hk.mem a c).1 hc)
    exact bel_trans h1 h2
  ·intro h
   have : ∀ {x b : Bid}, Bel f x b → ∃ c p, f c = some p ∧ p.parent = b ∧ BelE f x c := by
    intro x b h
    induction h with
    | one h => exact ⟨_, _, h, rfl, .inl rfl⟩
    | more h _ ih =>
     obtain ⟨c, p, h1, h2, h3⟩ := ih
     exact ⟨c, p, h1, h2, .inr ((belE_parent h).2 h3)⟩
   obtain ⟨c, p, h1, h2, h3⟩ := this h
   have hc : (⟨p.key, c⟩ : Child) ∈ L a := (hk.mem a ⟨p.key, c⟩).2 (by rw [h1, ← h2])
   refine ⟨_, hc, ?_⟩
   rcases h3 with h3 | h3
   ·exact .inl h3
   ·exact .inr ((walk_mem hk hr n c (hd.child hk hr hc) x).2 h3)
theorem nodup_flatMap {α β : Type} {g : α → List β} : ∀ {l : List α}, (∀ a ∈ l, (g a).Nodup) → (l.Pairwise fun a b => ∀ x, x ∈ g a → x ∉ g b) → (l.flatMap g).Nodup
 | [], _, _ => by simp
 | a :: l, h1, h2 => by
  rw [List.flatMap_cons, List.nodup_append]
  obtain ⟨h3, h4⟩ := List.pairwise_cons.1 h2
  refine ⟨h1 a (by simp), nodup_flatMap (fun b hb => h1 b (by simp [hb])) h4, fun x hx y hy e => ?_⟩
  subst e
  obtain ⟨b, hb, hxb⟩ := List.mem_flatMap.1 hy
  exact h3 b hb x hx hxb
theorem walk_nodup {f : Places} {L : Lists} {rk : Bid → Nat} (hk : KidsOk f L) (hr : Ranked f rk) : ∀ (n : Nat) (a : Bid), Deep f rk n a → (walkF n L a).Nodup
 | 0, _, _ => by unfold walkF; exact List.nodup_nil
 | n + 1, a, hd => by
  unfold walkF
  refine nodup_flatMap (fun c hc => ?_) ?_
  ·rw [List.nodup_cons]
   refine ⟨fun h => bel_irrefl hr ((walk_mem hk hr n c.id (hd.child hk hr hc) _).1 h), walk_nodup hk hr n c.id (hd.child hk hr hc)⟩
  ·have hs := hk.sorted a
   refine List.Pairwise.imp_of_mem ?_ hs
   intro c d hc hdd hlt x hx hy
   have hcx : BelE f x c.id := by
    rcases List.mem_cons.1 hx with h | h
    ·exact .inl h
    ·exact .inr ((walk_mem hk hr n c.id (hd.child hk hr hc) x).1 h)
   have hdx : BelE f x d.id := by
    rcases List.mem_cons.1 hy with h | h
    ·exact .inl h
    ·exact .inr ((walk_mem hk hr n d.id (hd.child hk hr hdd) x).1 h)
   have h1 := (hk.mem a c).1 hc
   have h2 := (hk.mem a d).1 hdd
   have e := belE_sibling hr h1 h2 rfl hcx hdx
   rw [e, h2] at h1
   have e2 : d.key = c.key := by simpa using h1
   have : c = d := by cases c; cases d; simp_all
   rw [this, orderChild_self] at hlt
   exact absurd hlt (by decide)
theorem deep_exists {f : Places} {rk : Bid → Nat} {dom : List Bid} (hd : ∀ a, f a ≠ none → a ∈ dom) : ∃ B, ∀ n, B ≤ n → ∀ a, Deep f rk n a := by
 have : ∀ l : List Bid, ∃ B, ∀ x ∈ l, rk x ≤ B := by
  intro l
  induction l with
  | nil => exact ⟨0, by simp⟩
  | cons x l ih =>
   obtain ⟨B, hB⟩ := ih
   refine ⟨max (rk x) B, fun y hy => ?_⟩
   rcases List.mem_cons.1 hy with rfl | hy
   ·exact Nat.le_max_left _ _
   ·exact Nat.le_trans (hB y hy) (Nat.le_max_right _ _)
 obtain ⟨B, hB⟩ := this dom
 exact ⟨B, fun n hn a x hx => by have := hB x (hd x hx); omega⟩
end Dc
namespace Dc
open Off (Bid rightOp rightBlock)
noncomputable def depthOf (f : Places) (a top : Bid) : Nat := ((way f a).takeWhile fun b => decide (b ≠ top)).length
theorem depth_step {f : Places} {rk : Bid → Nat} (hr : Ranked f rk) {a top : Bid} {p : Place} (h : f a = some p) : depthOf f a top = if p.parent = top then 0 else depthOf f p.parent top + 1 := by
 unfold depthOf
 rw [way_some hr h, List.takeWhile_cons]
 by_cases hp : p.parent = top
 ·simp [hp]
 ·simp [hp]
def Word.z : Word := ⟨false, 0, 0, .z⟩
def foldOf (g : Words) (a : Bid) : Bool := ((g a).getD .z).on
noncomputable def outOf (d : Doc) (L : Lists) (n : Nat) (top : Bid) : List Block := (walkF n L top).map fun a => ⟨a, (depthOf d.places a top : Nat), foldOf d.words a, textOf d.tx a⟩
/-- in a document each block that is moved is there -/
structure DocIn (d : Doc) : Prop where
 there : ∀ m ∈ d.ms, d.there m.block = true
 kind : ∀ i k, d.kinds i = some k → ∃ o ∈ d.ops, o.id = i ∧ o.kind = k
theorem there_mono {d : Doc} {o : Op} (hn : d.kinds o.id = none) {b : Bid} (h : d.there b = true) : (d.apply o).there b = true := by
 unfold Doc.there at *
 unfold Doc.apply setK
 simp only [Bool.or_eq_true, decide_eq_true_eq] at *
 by_cases hb : b = o.id
 ·subst hb
  rw [hn] at h
  simp at h
  rcases h with h | h
  ·exact .inl (.inl (.inl h))
  ·exact .inl (.inl (.inr h))
 ·rw [if_neg hb]; exact h
theorem DocIn.new : DocIn .new := ⟨by simp [Doc.new], by simp [Doc.new]⟩
theorem DocIn.apply {d : Doc} (h : DocIn d) {o : Op} (he : d.err o = 0) : DocIn (d.apply o) := by
 obtain ⟨hok, hk, hkn, _⟩ := err_parts he
 refine ⟨?_, ?_⟩
 ·rw [apply_ms]
  intro x hx
  cases hm : o.mv with
  | none => rw [hm] at hx; exact there_mono hk (h.there x hx)
  | some m =>
   rw [hm] at hx
   rcases mem_addMove.1 hx with rfl | hx
   ·unfold Op.mv at hm
    split at hm
    ·rename_i h15
     cases hm
     unfold Doc.there Doc.apply setK moveOf
     rcases h15 with h15 | h15 <;> simp [h15]
    ·split at hm
     ·rename_i h2
      cases hm
      refine there_mono hk ?_
      unfold Doc.known at hkn
      rw [h2] at hkn
      simp at hkn
      exact hkn.1
     ·cases hm
   ·exact there_mono hk (h.there x hx)
 ·intro i k hi
  have hi' : setK d.kinds o.id o.kind i = some k := hi
  unfold setK at hi'
  show ∃ x ∈ d.ops ++ [o], _
  split at hi'
  ·rename_i hio
   cases hi'
   exact ⟨o, by simp, hio.symm, rfl⟩
  ·obtain ⟨x, hx, h1⟩ := h.kind i k hi'
   exact ⟨x, by simp [hx], h1⟩
theorem DocIn.act {d : Doc} (h : DocIn d) (o : Op) : DocIn (d.act o) := by
 unfold Doc.act
 split
 ·exact h.apply (by assumption)
 ·exact h
end Dc
namespace Dc
open Off (Bid rightOp rightBlock rightOp_iff)
/-! the outermost character on a side -/
theorem edge1_some {N : Nodes} {rk : Chr → Nat} {B M : Nat} (h : NodesOk N rk B M) {s : Bool} {c x : Chr} (he : edge1 N s c = some x) : x ≠ .z ∧ N x ≠ none ∧ rk c < rk x := by
 unfold edge1 at he
 cases hc : N c with
 | none => rw [hc] at he; cases he
 | some n =>
  rw [hc] at he
  simp only at he
  have hx : x ∈ n.side s := by
   unfold Node.side
   cases s with
   | true => simp only [if_true] at he ⊢; exact List.mem_of_getLast? he
   | false => simp at he ⊢; exact List.mem_of_mem_head? (by rw [he]; rfl)
  obtain ⟨h1, m, h2, h3⟩ := h.down _ _ _ _ hc hx
  exact ⟨h1, by rw [h2]; simp, by have := h.rank _ _ h2 h1; rw [h3] at this; exact this⟩
theorem edge_exists {N : Nodes} {rk : Chr → Nat} {B M : Nat} (h : NodesOk N rk B M) (s : Bool) : ∀ (n : Nat) (c : Chr), N c ≠ none → B ≤ rk c + n → ∃ e, EdgeIs N s c e ∧ N e ≠ none ∧ (e = c ∨ e ≠ .z)
 | n, c, hc, hn => by
  cases he : edge1 N s c with
  | none => exact ⟨c, .stop he, hc, .inl rfl⟩
  | some x =>
   obtain ⟨h1, h2, h3⟩ := edge1_some h he
   have h4 := h.bound x h2
   cases n with
   | zero => omega
   | succ n =>
    obtain ⟨e, h5, h6, h7⟩ := edge_exists h s n x h2 (by omega)
    refine ⟨e, .go he h5, h6, .inr ?_⟩
    rcases h7 with rfl | h7
    ·exact h1
    ·exact h7
theorem edge_unique {N : Nodes} {s : Bool} {c e e' : Chr} (h : EdgeIs N s c e) (h' : EdgeIs N s c e') : e = e' := by
 induction h with
 | stop h1 =>
  cases h' with
  | stop _ => rfl
  | go h2 _ => rw [h1] at h2; cases h2
 | go h1 _ ih =>
  cases h' with
  | stop h2 => rw [h1] at h2; cases h2
  | go h2 h3 => rw [h1] at h2; cases h2; exact ih h3
theorem edge_eq {N : Nodes} {s : Bool} {c e : Chr} (h : EdgeIs N s c e) : edge N s c = e := by
 unfold edge
 have hx : ∃ e, EdgeIs N s c e := ⟨e, h⟩
 rw [dif_pos hx]
 exact edge_unique (Classical.choose_spec hx) h
theorem edge_ok {N : Nodes} {rk : Chr → Nat} {B M : Nat} (h : NodesOk N rk B M) (s : Bool) {c : Chr} (hc : N c ≠ none) : EdgeIs N s c (edge N s c) ∧ N (edge N s c) ≠ none ∧ (c ≠ .z → edge N s c ≠ .z) := by
 obtain ⟨e, h1, h2, h3⟩ := edge_exists h s B c hc (by omega)
 rw [edge_eq h1]
 refine ⟨h1, h2, fun hz => ?_⟩
 rcases h3 with rfl | h3
 ·exact hz
 ·exact h3
/-! where a character stands -/
theorem flat1_c (r : Run) (k : Nat) (h : k < r.len) : ((flat1 r)[k]?).map (·.c) = some ⟨r.op, ((r.fr + k : Nat) : Int)⟩ := by
 unfold flat1
 rw [flatFrom_get _ _ _ _ _ _ h]; rfl
theorem has_iff {r : Run} {c : Chr} : r.has c = true ↔ c ∈ (flat1 r).map (·.c) := by
 unfold Run.has
 simp only [Bool.and_eq_true, decide_eq_true_eq]
 constructor
 ·rintro ⟨⟨h1, h2⟩, h3⟩
  refine List.mem_map.2 ?_
  have hk : (c.i - r.fr).toNat < r.len := by omega
  refine ⟨⟨⟨r.op, ((r.fr + (c.i - r.fr).toNat : Nat) : Int)⟩, r.gone, r.mark, r.text[(c.i - r.fr).toNat]'hk⟩, flat1_mem.2 ⟨_, hk, rfl⟩, ?_⟩
  obtain ⟨op, i⟩ := c
  simp only at *
  rw [h1]
  congr 1
  push_cast
  omega
 ·intro h
  obtain ⟨x, hx, rfl⟩ := List.mem_map.1 h
  obtain ⟨j, hj, rfl⟩ := flat1_mem.1 hx
  exact ⟨⟨rfl, by push_cast; omega⟩, by push_cast; omega⟩
theorem findR_some : ∀ {l : Row} {c : Chr} {k : Nat}, findR l c = some k → ((flat l)[k]?).map (·.c) = some c
 | [], _, _, h => by cases h
 | r :: l, c, k, h => by
  unfold findR at h
  rw [flat_cons]
  split at h
  ·rename_i hh
   cases h
   have h2 := hh
   unfold Run.has at h2
   simp only [Bool.and_eq_true, decide_eq_true_eq] at h2
   obtain ⟨⟨h3, h4⟩, h5⟩ := h2
   have hk : (c.i - r.fr).toNat < r.len := by omega
   rw [List.getElem?_append_left (by rw [flat1_length]; exact hk), flat1_c _ _ hk]
   obtain ⟨op, i⟩ := c
   simp only at *
   rw [h3]
   congr 2
   push_cast
   omega
  ·cases hf : findR l c with
   | none => rw [hf] at h; cases h
   | some j =>
    rw [hf] at h
    simp only [Option.map_some, Option.some.injEq] at h
    subst h
    rw [List.getElem?_append_right (by rw [flat1_length]; omega), flat1_length, Nat.add_sub_cancel]
    exact findR_some hf
theorem findR_none : ∀ {l : Row} {c : Chr}, findR l c = none ↔ c ∉ (flat l).map (·.c)
 | [], c => by simp [findR, flat]
 | r :: l, c => by
  unfold findR
  rw [flat_cons, List.map_append, List.mem_append]
  cases hh : r.has c with
  | true =>
   simp only [if_true]
   constructor
   ·intro h; cases h
   ·intro h; exact absurd (.inl (has_iff.1 hh)) h
  | false =>
   simp only [Bool.false_eq_true, if_false, Option.map_eq_none_iff]
   rw [findR_none]
   have : c ∉ (flat1 r).map (·.c) := fun e => by rw [has_iff.2 e] at hh; cases hh
   constructor
   ·rintro h (e | e)
    ·exact this e
    ·exact h e
   ·intro h e; exact h (.inr e)
theorem where_lt {l : Row} {c : Chr} (h : c ∈ (flat l).map (·.c)) : whereR l c < lenR l ∧ ((flat l)[whereR l c]?).map (·.c) = some c := by
 unfold whereR
 cases hf : findR l c with
 | none => exact absurd h (findR_none.1 hf)
 | some k =>
  have h1 := findR_some hf
  refine ⟨?_, h1⟩
  simp only [Option.getD_some]
  rw [← flat_length]
  cases h2 : (flat l)[k]? with
  | none => rw [h2] at h1; cases h1
  | some x => exact (List.getElem?_eq_some_iff.1 h2).1
/-! an insertion finds its place -/
theorem item_flat {o : Op} (hs : 0 < o.size) : (o.kind = 5 ∧ flat1 (itemOf o) = [⟨⟨o.id, 0⟩, false, true, 0⟩]) ∨ (o.kind = 3 ∧ flat1 (itemOf o) = flatFrom o.id false false 0 o.text) := by
 unfold Op.size at hs
 unfold itemOf
 split at hs
 ·rename_i hk
  right
  rw [if_neg (by rw [hk]; decide)]
  exact ⟨hk, rfl⟩
 ·split at hs
  ·rename_i hk
   left
   rw [if_pos hk]
   exact ⟨hk, rfl⟩
  ·omega
theorem item_len {o : Op} (hs : 0 < o.size) : (itemOf o).len = o.size := by
 unfold Op.size at *
 unfold itemOf
 split at hs
 ·rename_i hk
  rw [if_neg (by rw [hk]; decide), if_pos hk]; rfl
 ·split at hs
  ·rename_i hk3 hk
   rw [if_pos hk, if_neg hk3, if_pos hk]; rfl
  ·omega
theorem item_op (o : Op) : (itemOf o).op = o.id ∧ (itemOf o).fr = 0 := by unfold itemOf; split <;> exact ⟨rfl, rfl⟩
theorem item_right {o : Op} (hok : o.ok = true) (hs : 0 < o.size) : rightItem (itemOf o) = true := by
 have h1 := item_len hs
 have h2 := item_op o
 have h3 := ok_size hok
 have h4 := (ok_parts hok).2.1
 have h5 : (itemOf o).mark = true → (itemOf o).len = 1 := by
  unfold itemOf
  split
  ·intro _; rfl
  ·intro h; cases h
 unfold rightItem
 rw [h2.1, h2.2, h1, h4]
 simp only [Bool.and_eq_true, decide_eq_true_eq, Bool.or_eq_true, Bool.not_eq_true', true_and]
 refine ⟨⟨⟨⟨by omega, h3⟩, by omega⟩, by omega⟩, ?_⟩
 cases hm : (itemOf o).mark with
 | false => exact .inl rfl
 | true => exact .inr (by rw [← h1]; exact h5 hm)
/-- the row holds the tree's characters, each once -/
structure RowFull (t : YT) : Prop where
 nodup : ((flat t.row).map (·.c)).Nodup
 mem : ∀ c, c ∈ (flat t.row).map (·.c) ↔ t.nodes c ≠ none ∧ c ≠ .z
theorem place_le {t : YT} {rk : Chr → Nat} {B M : Nat} (h : NodesOk t.nodes rk B M) (hf : RowFull t) {o : Op} (hl : t.nodes o.left ≠ none) (hr : t.nodes o.right ≠ none) :
  0 ≤ placeOf t (seatOf t.nodes o) ∧ placeOf t (seatOf t.nodes o) ≤ lenR t.row := by
 obtain ⟨n, hn⟩ := seat_up hl hr
 have hp := seat_pos hn
 have hwh : ∀ c, t.nodes c ≠ none → c ≠ .z → whereR t.row c < lenR t.row := fun c h1 h2 => (where_lt ((hf.mem c).2 ⟨h1, h2⟩)).1
 unfold placeOf
 split
 ·rename_i hpos
  have hle := chrAt_le (n.side (seatOf t.nodes o).side) o.id
  have hso : sideOf t.nodes (seatOf t.nodes o).up (seatOf t.nodes o).side = n.side (seatOf t.nodes o).side := by unfold sideOf; rw [hn]
  rw [hso]
  have hlt : (seatOf t.nodes o).pos - 1 < (n.side (seatOf t.nodes o).side).length := by omega
  have hmem : (n.side (seatOf t.nodes o).side).getD ((seatOf t.nodes o).pos - 1) .z ∈ n.side (seatOf t.nodes o).side := by
   rw [List.getD_eq_getElem?_getD, List.getElem?_eq_getElem hlt]
   exact List.getElem_mem hlt
  generalize (n.side (seatOf t.nodes o).side).getD ((seatOf t.nodes o).pos - 1) .z = x at hmem
  obtain ⟨h1, m, h2, _⟩ := h.down _ _ _ _ hn hmem
  have he := edge_ok h true (c := x) (by rw [h2]; simp)
  have := hwh _ he.2.1 (he.2.2 h1)
  omega
 ·split
  ·rename_i hs
   have hup : (seatOf t.nodes o).up ≠ .z := by
    unfold seatOf at hs ⊢
    simp only [Bool.not_eq_false'] at hs ⊢
    rw [if_pos hs]
    simp only [Bool.and_eq_true, decide_eq_true_eq] at hs
    exact hs.1
   have he := edge_ok h false (c := (seatOf t.nodes o).up) (by rw [hn]; simp)
   have := hwh _ he.2.1 (he.2.2 hup)
   omega
  ·split
   ·omega
   ·rename_i hup
    have := hwh (seatOf t.nodes o).up (by rw [hn]; simp) hup
    omega
theorem overlaps_false {l : Row} {x : Run} (h : ∀ r ∈ flat l, r.c.op ≠ x.op) (hok : RowOk l) : overlaps l x = false := by
 unfold overlaps
 rw [Bool.eq_false_iff]
 intro e
 obtain ⟨r, hr, e⟩ := List.any_eq_true.1 e
 simp only [Bool.and_eq_true, decide_eq_true_eq] at e
 have h1 := (hok r hr).1
 have h2 : (⟨⟨r.op, ((r.fr + 0 : Nat) : Int)⟩, r.gone, r.mark, r.text[0]'h1⟩ : RC) ∈ flat l := List.mem_flatMap.2 ⟨r, hr, flat1_mem.2 ⟨0, h1, rfl⟩⟩
 exact h _ h2 e.1.1
theorem put_fine {t : YT} {rk : Chr → Nat} {B M : Nat} (h : NodesOk t.nodes rk B M) (hf : RowFull t) (hrow : RowOk t.row) {o : Op} (hok : o.ok = true) (hl : t.nodes o.left ≠ none) (hr : t.nodes o.right ≠ none) (hs : 0 < o.size)
  (hn : ∀ c : Chr, c.op = o.id → t.nodes c = none) : putErr t.row (placeOf t (seatOf t.nodes o)) (itemOf o) = 0 := by
 have hp := place_le h hf hl hr
 unfold putErr
 rw [if_neg (by rw [item_right hok hs]; simp), if_neg (by omega)]
 rw [if_neg]
 rw [overlaps_false _ hrow]
 ·simp
 ·intro r hr e
  rw [(item_op o).1] at e
  have := ((hf.mem r.c).1 (List.mem_map.2 ⟨r, hr, rfl⟩)).1
  exact this (hn _ e)
theorem flatFrom_cs (op : Bid) (g m : Bool) : ∀ (k : Nat) (t : Bs), ((flatFrom op g m k t).map (·.c)) = (List.range' k t.length).map fun i : Nat => (⟨op, (i : Int)⟩ : Chr)
 | _, [] => rfl
 | k, b :: t => by
  simp only [flatFrom, List.map_cons, List.length_cons, List.range'_succ]
  rw [flatFrom_cs op g m (k + 1) t]
theorem flat1_cs (r : Run) : (flat1 r).map (·.c) = (List.range' r.fr r.len).map fun i : Nat => (⟨r.op, (i : Int)⟩ : Chr) := flatFrom_cs _ _ _ _ _
theorem flat1_nodup (r : Run) : ((flat1 r).map (·.c)).Nodup := by
 rw [flat1_cs]
 refine List.Pairwise.map _ (fun a b hab e => hab ?_) List.nodup_range'
 simp only [Chr.mk.injEq, true_and] at e
 omega
theorem insY_full {t : YT} {rk : Chr → Nat} {B M : Nat} (h : NodesOk t.nodes rk B M) (hf : RowFull t) (hrow : RowOk t.row) {o : Op} (hok : o.ok = true) (hl : t.nodes o.left ≠ none) (hr : t.nodes o.right ≠ none) (hs : 0 < o.size)
  (hn : ∀ c : Chr, c.op = o.id → t.nodes c = none) : RowFull (insY t o) ∧ ∃ k, k ≤ (flat t.row).length ∧ flat (insY t o).row = (flat t.row).take k ++ flat1 (itemOf o) ++ (flat t.row).drop k := by
 have hpe := put_fine h hf hrow hok hl hr hs hn
 have hfl := putR_flat hpe
 have hp := place_le h hf hl hr
 obtain ⟨k, hk⟩ : ∃ k, k = (placeOf t (seatOf t.nodes o)).toNat := ⟨_, rfl⟩
 rw [← hk] at hfl
 have hrowe : (insY t o).row = putR t.row (placeOf t (seatOf t.nodes o)) (itemOf o) := rfl
 have hmemx : ∀ c, c ∈ (flat (insY t o).row).map (·.c) ↔ c ∈ (flat t.row).map (·.c) ∨ c ∈ (flat1 (itemOf o)).map (·.c) := by
  intro c
  rw [hrowe, hfl]
  have : c ∈ (flat t.row).map (·.c) ↔ c ∈ ((flat t.row).take k).map (·.c) ∨ c ∈ ((flat t.row).drop k).map (·.c) := by
   conv => lhs; rw [← List.take_append_drop k (flat t.row), List.map_append, List.mem_append]
  rw [this, List.map_append, List.map_append, List.mem_append, List.mem_append]
  constructor
  ·rintro ((h | h) | h)
   ·exact .inl (.inl h)
   ·exact .inr h
   ·exact .inl (.inr h)
  ·rintro ((h | h) | h)
   ·exact .inl (.inl h)
   ·exact .inr h
   ·exact .inl (.inr h)
 have hit : ∀ c, c ∈ (flat1 (itemOf o)).map (·.c) ↔ c.op = o.id ∧ 0 ≤ c.i ∧ c.i < (o.size : Int) := by
  intro c
  rw [← has_iff]
  unfold Run.has
  rw [(item_op o).1, (item_op o).2, item_len hs]
  simp only [Bool.and_eq_true, decide_eq_true_eq]
  constructor
  ·rintro ⟨⟨h1, h2⟩, h3⟩; exact ⟨h1.symm, by omega, by omega⟩
  ·rintro ⟨h1, h2, h3⟩; exact ⟨⟨h1.symm, by omega⟩, by omega⟩
 refine ⟨⟨?_, ?_⟩, k, by rw [flat_length]; omega, by rw [hrowe, hfl]⟩
 ·have hsplit : (flat t.row).map (·.c) = ((flat t.row).take k).map (·.c) ++ ((flat t.row).drop k).map (·.c) := by rw [← List.map_append, List.take_append_drop]
  have hnd := hf.nodup
  rw [hsplit] at hnd
  have hdis : ∀ c, c ∈ (flat t.row).map (·.c) → c ∈ (flat1 (itemOf o)).map (·.c) → False := by
   intro c h1 h2
   exact ((hf.mem c).1 h1).1 (hn c ((hit c).1 h2).1)
  rw [hrowe, hfl, List.map_append, List.map_append]
  obtain ⟨n1, n2, n3⟩ := List.nodup_append.1 hnd
  refine List.nodup_append.2 ⟨List.nodup_append.2 ⟨n1, flat1_nodup _, ?_⟩, n2, ?_⟩
  ·intro a ha b hb e
   subst e
   exact hdis a (by rw [hsplit]; exact List.mem_append.2 (.inl ha)) hb
  ·intro a ha b hb e
   subst e
   rcases List.mem_append.1 ha with ha | ha
   ·exact n3 a ha a hb rfl
   ·exact hdis a (by rw [hsplit]; exact List.mem_append.2 (.inr hb)) ha
 ·intro c
  rw [hmemx, hf.mem, hit, insY_there hl hr hs]
  constructor
  ·rintro (⟨h1, h2⟩ | ⟨h1, h2, h3⟩)
   ·exact ⟨.inl h1, h2⟩
   ·refine ⟨.inr ⟨h1, h2, h3⟩, fun e => ?_⟩
    rw [e] at h1
    exact ok_id hok h1.symm
  ·rintro ⟨h1 | h1, h2⟩
   ·exact .inl ⟨h1, h2⟩
   ·exact .inr h1
theorem RowFull.new : RowFull .new := by
 refine ⟨by simp [YT.new, flat], fun c => ?_⟩
 rw [new_nodes]
 simp [YT.new, flat]
theorem RowFull.cut {t : YT} (h : RowFull t) (c : Cut) : RowFull (cutY t c) := by
 have e : ((flat (cutY t c).row).map (·.c)) = (flat t.row).map (·.c) := by
  show ((flat (cutR t.row c)).map (·.c)) = _
  rw [cutR_flat, List.map_map]
  refine List.map_congr_left fun x _ => goRC_c c x
 exact ⟨by rw [e]; exact h.nodup, fun x => by rw [e]; exact h.mem x⟩
end Dc
namespace Dc
open Off (Bid rightOp rightBlock rightOp_iff)
def isGone (ops : List Op) (c : Chr) : Prop := ∃ o ∈ ops, ∃ k ∈ o.cuts, inCut k c = true
/-- what a character shows by its op -/
def Shows (ops : List Op) (seg : Bid) (r : RC) : Prop :=
 ∃ o ∈ ops, o.id = r.c.op ∧ o.seg = seg ∧ ((o.kind = 5 ∧ r.mark = true ∧ r.c.i = 0) ∨ (o.kind = 3 ∧ r.mark = false ∧ ∃ k : Nat, r.c.i = k ∧ o.text[k]? = some r.b))
structure Full (x : TX) (ops : List Op) : Prop where
 row : ∀ seg t, x.texts seg = some t → RowFull t
 shows : ∀ seg t r, x.texts seg = some t → r ∈ flat t.row → Shows ops seg r
 gone : ∀ seg t r, x.texts seg = some t → r ∈ flat t.row → (r.gone = true ↔ isGone ops r.c)
 cuts : ∀ o ∈ ops, ∀ c ∈ o.cuts, x.made c.op ≠ none
 made : ∀ i s, x.made i = some s ↔ ∃ o ∈ ops, o.id = i ∧ 0 < o.size ∧ s = ⟨o.seg, o.size, decide (o.kind = 5)⟩
 texts : ∀ seg, x.texts seg ≠ none ↔ ∃ o ∈ ops, o.kind = 1 ∧ o.id = seg
theorem Full.new : Full .new [] := by
 refine ⟨?_, ?_, ?_, ?_, ?_, ?_⟩ <;> simp [TX.new]
theorem size_zero {o : Op} (h3 : o.kind ≠ 3) (h5 : o.kind ≠ 5) : o.size = 0 := by unfold Op.size; rw [if_neg h3, if_neg h5]
theorem own_cuts {o : Op} (hok : o.ok = true) (hk : o.kind ≠ 4) : o.cuts = [] := by
 have h := (ok_parts hok).2.2.2
 have e : o.own.cuts = [] := by
  unfold Op.own
  rw [if_neg (c := o.kind = 4) hk]
  repeat' (first | rfl | split)
 rw [← h]; exact e
theorem kind_in {o : Op} (hok : o.ok = true) : o.kind = 1 ∨ o.kind = 2 ∨ o.kind = 3 ∨ o.kind = 4 ∨ o.kind = 5 ∨ o.kind = 6 := by
 have h := (ok_parts hok).2.2.1
 unfold Op.parts at h
 split at h
 ·simp [*]
 ·split at h
  ·simp [*]
  ·split at h
   ·simp [*]
   ·split at h
    ·simp [*]
    ·split at h
     ·simp [*]
     ·split at h
      ·simp [*]
      ·cases h
theorem shows_mono {ops : List Op} {o : Op} {seg : Bid} {r : RC} (h : Shows ops seg r) : Shows (ops ++ [o]) seg r := by
 obtain ⟨p, hp, h⟩ := h
 exact ⟨p, by simp [hp], h⟩
theorem gone_snoc {ops : List Op} {o : Op} {c : Chr} : isGone (ops ++ [o]) c ↔ isGone ops c ∨ ∃ k ∈ o.cuts, inCut k c = true := by
 unfold isGone
 constructor
 ·rintro ⟨p, hp, h⟩
  rcases List.mem_append.1 hp with hp | hp
  ·exact .inl ⟨p, hp, h⟩
  ·rw [List.mem_singleton.1 hp] at h; exact .inr h
 ·rintro (⟨p, hp, h⟩ | h)
  ·exact ⟨p, by simp [hp], h⟩
  ·exact ⟨o, by simp, h⟩
/-- an op without characters or cuts, that opens no text -/
theorem Full.plain {x : TX} {ops : List Op} (h : Full x ops) {o : Op} (hs : o.size = 0) (hc : o.cuts = []) (hk : o.kind ≠ 1) : Full x (ops ++ [o]) := by
 refine ⟨h.row, fun s t r ht hr => shows_mono (h.shows s t r ht hr), fun s t r ht hr => ?_, ?_, fun i s => ?_, fun seg => ?_⟩
 ·rw [h.gone s t r ht hr, gone_snoc, hc]; simp
 ·intro p hp c hcp
  rcases List.mem_append.1 hp with hp | hp
  ·exact h.cuts p hp c hcp
  ·rw [List.mem_singleton.1 hp, hc] at hcp; cases hcp
 ·rw [h.made]
  constructor
  ·rintro ⟨p, hp, h2⟩; exact ⟨p, by simp [hp], h2⟩
  ·rintro ⟨p, hp, h1, h2, h3⟩
   rcases List.mem_append.1 hp with hp | hp
   ·exact ⟨p, hp, h1, h2, h3⟩
   ·rw [List.mem_singleton.1 hp, hs] at h2; omega
 ·rw [h.texts]
  constructor
  ·rintro ⟨p, hp, h2⟩; exact ⟨p, by simp [hp], h2⟩
  ·rintro ⟨p, hp, h1, h2⟩
   rcases List.mem_append.1 hp with hp | hp
   ·exact ⟨p, hp, h1, h2⟩
   ·rw [List.mem_singleton.1 hp] at h1; exact absurd h1 hk
theorem Full.open' {x : TX} {ops : List Op} (h : Full x ops) {o : Op} (hk : o.kind = 1) (hok : o.ok = true) : Full (openX x o.id) (ops ++ [o]) := by
 have hs : o.size = 0 := size_zero (by rw [hk]; decide) (by rw [hk]; decide)
 have hc : o.cuts = [] := own_cuts hok (by rw [hk]; decide)
 have hget : ∀ s t, (openX x o.id).texts s = some t → (s = o.id ∧ t = .new) ∨ (s ≠ o.id ∧ x.texts s = some t) := by
  intro s t e
  unfold openX setT at e
  simp only at e
  split at e
  ·cases e; exact .inl ⟨by assumption, rfl⟩
  ·exact .inr ⟨by assumption, e⟩
 refine ⟨fun s t ht => ?_, fun s t r ht hr => ?_, fun s t r ht hr => ?_, ?_, fun i s => ?_, fun seg => ?_⟩
 ·rcases hget s t ht with ⟨rfl, rfl⟩ | ⟨_, ht⟩
  ·exact RowFull.new
  ·exact h.row s t ht
 ·rcases hget s t ht with ⟨rfl, rfl⟩ | ⟨_, ht⟩
  ·cases hr
  ·exact shows_mono (h.shows s t r ht hr)
 ·rcases hget s t ht with ⟨rfl, rfl⟩ | ⟨_, ht⟩
  ·cases hr
  ·rw [h.gone s t r ht hr, gone_snoc, hc]; simp
 ·intro p hp c hcp
  rcases List.mem_append.1 hp with hp | hp
  ·exact h.cuts p hp c hcp
  ·rw [List.mem_singleton.1 hp, hc] at hcp; cases hcp
 ·show x.made i = some s ↔ _
  rw [h.made]
  constructor
  ·rintro ⟨p, hp, h2⟩; exact ⟨p, by simp [hp], h2⟩
  ·rintro ⟨p, hp, h1, h2, h3⟩
   rcases List.mem_append.1 hp with hp | hp
   ·exact ⟨p, hp, h1, h2, h3⟩
   ·rw [List.mem_singleton.1 hp, hs] at h2; omega
 ·have e : (openX x o.id).texts seg ≠ none ↔ seg = o.id ∨ x.texts seg ≠ none := by
   unfold openX setT
   simp only
   by_cases hq : seg = o.id
   ·rw [if_pos hq]; simp [hq]
   ·rw [if_neg hq]; simp [hq]
  rw [e, h.texts]
  constructor
  ·rintro (rfl | ⟨p, hp, h2⟩)
   ·exact ⟨o, by simp, hk, rfl⟩
   ·exact ⟨p, by simp [hp], h2⟩
  ·rintro ⟨p, hp, h1, h2⟩
   rcases List.mem_append.1 hp with hp | hp
   ·exact .inr ⟨p, hp, h1, h2⟩
   ·rw [List.mem_singleton.1 hp] at h2; exact .inl h2.symm
theorem Full.ins {x : TX} {ops : List Op} {n : Nat} (h : Full x ops) (hx : TxOk x n) {o : Op} (he : insXErr x o = 0) (hok : o.ok = true) (hk : o.kind ≠ 1) (hk4 : o.kind ≠ 4) : Full (insX x o) (ops ++ [o]) := by
 obtain ⟨hi, hm, t, ht, he2, hl, hr, hs, hf⟩ := insX_parts hx he hok
 obtain ⟨rk, hnd⟩ := hx.nodes _ t ht
 have hrow := (hx.row _ t ht).1
 have hc : o.cuts = [] := own_cuts hok hk4
 have e0 : insX x o = ⟨setT x.texts o.seg (insY t o), setM x.made o.id ⟨o.seg, o.size, decide (o.kind = 5)⟩⟩ := by unfold insX; rw [ht]
 obtain ⟨hfull, k, hkl, hflat⟩ := insY_full hnd (h.row _ t ht) hrow hok hl hr hs hf
 rw [e0]
 have hget : ∀ s u, setT x.texts o.seg (insY t o) s = some u → (s = o.seg ∧ u = insY t o) ∨ (s ≠ o.seg ∧ x.texts s = some u) := by
  intro s u e
  unfold setT at e
  split at e
  ·cases e; exact .inl ⟨by assumption, rfl⟩
  ·exact .inr ⟨by assumption, e⟩
 have hmem : ∀ r, r ∈ flat (insY t o).row → r ∈ flat t.row ∨ r ∈ flat1 (itemOf o) := by
  intro r hr
  rw [hflat] at hr
  rcases List.mem_append.1 hr with hr | hr
  ·rcases List.mem_append.1 hr with hr | hr
   ·exact .inl (List.mem_of_mem_take hr)
   ·exact .inr hr
  ·exact .inl (List.mem_of_mem_drop hr)
 have hitem : ∀ r, r ∈ flat1 (itemOf o) → r.c.op = o.id ∧ r.gone = false ∧ ((o.kind = 5 ∧ r.mark = true ∧ r.c.i = 0) ∨ (o.kind = 3 ∧ r.mark = false ∧ ∃ k : Nat, r.c.i = k ∧ o.text[k]? = some r.b)) := by
  intro r hr
  rcases item_flat hs with ⟨hk5, hfl⟩ | ⟨hk3, hfl⟩
  ·rw [hfl] at hr
   rw [List.mem_singleton.1 hr]
   exact ⟨rfl, rfl, .inl ⟨hk5, rfl, rfl⟩⟩
  ·rw [hfl] at hr
   obtain ⟨j, hj, rfl⟩ := (flatFrom_mem _ _ _).1 hr
   exact ⟨rfl, rfl, .inr ⟨hk3, rfl, j, by simp, by simp [List.getElem?_eq_getElem hj]⟩⟩
 have hng : ∀ c : Chr, c.op = o.id → ¬ isGone ops c := by
  rintro c hco ⟨p, hp, q, hq, hin⟩
  have h1 := h.cuts p hp q hq
  unfold inCut at hin
  simp only [Bool.and_eq_true, decide_eq_true_eq] at hin
  rw [← hin.1.1, hco, hm] at h1
  exact h1 rfl
 refine ⟨fun s u hu => ?_, fun s u r hu hr => ?_, fun s u r hu hr => ?_, ?_, fun i s => ?_, fun seg => ?_⟩
 ·rcases hget s u hu with ⟨rfl, rfl⟩ | ⟨_, hu⟩
  ·exact hfull
  ·exact h.row s u hu
 ·rcases hget s u hu with ⟨rfl, rfl⟩ | ⟨_, hu⟩
  ·rcases hmem r hr with hr | hr
   ·exact shows_mono (h.shows _ t r ht hr)
   ·obtain ⟨h1, _, h2⟩ := hitem r hr
    exact ⟨o, by simp, h1.symm, rfl, h2⟩
  ·exact shows_mono (h.shows s u r hu hr)
 ·rw [gone_snoc, hc]
  simp only [List.not_mem_nil, false_and, exists_false, or_false]
  rcases hget s u hu with ⟨rfl, rfl⟩ | ⟨_, hu⟩
  ·rcases hmem r hr with hr | hr
   ·exact h.gone _ t r ht hr
   ·obtain ⟨h1, h2, _⟩ := hitem r hr
    rw [h2]
    simp [hng _ h1]
  ·exact h.gone s u r hu hr
 ·intro p hp c hcp
  have e : setM x.made o.id ⟨o.seg, o.size, decide (o.kind = 5)⟩ c.op ≠ none ↔ c.op = o.id ∨ x.made c.op ≠ none := by
   unfold setM
   by_cases hq : c.op = o.id
   ·rw [if_pos hq]; simp [hq]
   ·rw [if_neg hq]; simp [hq]
  rcases List.mem_append.1 hp with hp | hp
  ·exact e.2 (.inr (h.cuts p hp c hcp))
  ·rw [List.mem_singleton.1 hp, hc] at hcp; cases hcp
 ·show setM x.made o.id ⟨o.seg, o.size, decide (o.kind = 5)⟩ i = some s ↔ _
  unfold setM
  by_cases hq : i = o.id
  ·rw [if_pos hq]
   constructor
   ·intro e
    exact ⟨o, by simp, hq.symm, hs, (Option.some.inj e).symm⟩
   ·rintro ⟨p, hp, h1, h2, h3⟩
    rcases List.mem_append.1 hp with hp | hp
    ·exfalso
     have := (h.made i s).2 ⟨p, hp, h1, h2, h3⟩
     rw [hq, hm] at this; cases this
    ·rw [List.mem_singleton.1 hp] at h3; rw [h3]
  ·rw [if_neg hq, h.made]
   constructor
   ·rintro ⟨p, hp, h2⟩; exact ⟨p, by simp [hp], h2⟩
   ·rintro ⟨p, hp, h1, h2, h3⟩
    rcases List.mem_append.1 hp with hp | hp
    ·exact ⟨p, hp, h1, h2, h3⟩
    ·rw [List.mem_singleton.1 hp] at h1; exact absurd h1.symm hq
 ·have e : setT x.texts o.seg (insY t o) seg ≠ none ↔ x.texts seg ≠ none := by
   unfold setT
   by_cases hq : seg = o.seg
   ·rw [if_pos hq, hq, ht]; simp
   ·rw [if_neg hq]
  show setT x.texts o.seg (insY t o) seg ≠ none ↔ _
  rw [e, h.texts]
  constructor
  ·rintro ⟨p, hp, h2⟩; exact ⟨p, by simp [hp], h2⟩
  ·rintro ⟨p, hp, h1, h2⟩
   rcases List.mem_append.1 hp with hp | hp
   ·exact ⟨p, hp, h1, h2⟩
   ·rw [List.mem_singleton.1 hp] at h1; exact absurd h1 hk
/-! characters that are cut: in all texts alike -/
theorem goRC_eq (c : Cut) (r : RC) : (goRC c r).c = r.c ∧ (goRC c r).mark = r.mark ∧ (goRC c r).b = r.b ∧ ((goRC c r).gone = true ↔ r.gone = true ∨ inCut c r.c = true) := by
 unfold goRC
 split
 ·simp [*]
 ·simp [*]
/-- the cuts of an op, one behind the other -/
theorem delX_full {ops : List Op} {n : Nat} : ∀ (l : List Cut) (x : TX) (done : List Cut), TxOk x n → (∀ c ∈ l, x.made c.op ≠ none) →
  (∀ seg t, x.texts seg = some t → RowFull t) → (∀ seg t r, x.texts seg = some t → r ∈ flat t.row → Shows ops seg r) → (∀ seg t r, x.texts seg = some t → r ∈ flat t.row → (r.gone = true ↔ isGone ops r.c ∨ ∃ k ∈ done, inCut k r.c = true)) →
  (∀ i s, x.made i = some s ↔ ∃ o ∈ ops, o.id = i ∧ 0 < o.size ∧ s = ⟨o.seg, o.size, decide (o.kind = 5)⟩) →
  (∀ seg t, (delX x l).texts seg = some t → RowFull t) ∧ (∀ seg t r, (delX x l).texts seg = some t → r ∈ flat t.row → Shows ops seg r) ∧
  (∀ seg t r, (delX x l).texts seg = some t → r ∈ flat t.row → (r.gone = true ↔ isGone ops r.c ∨ ∃ k ∈ done ++ l, inCut k r.c = true)) ∧ (∀ seg, (delX x l).texts seg ≠ none ↔ x.texts seg ≠ none) ∧ (delX x l).made = x.made
 | [], x, done, _, _, h1, h2, h3, _ => ⟨h1, h2, by simpa [delX] using h3, fun _ => Iff.rfl, rfl⟩
 | c :: l, x, done, hx, hc, h1, h2, h3, h4 => by
  have hm := hc c (by simp)
  obtain ⟨s, hs⟩ := Option.ne_none_iff_exists'.1 hm
  obtain ⟨⟨t, ht⟩, _⟩ := hx.made _ _ hs
  -- as one step of a document that has no cut of its own
  have hstep : (∀ seg u, (Dc.del1 x c).texts seg = some u → ∃ v, x.texts seg = some v ∧ flat u.row = (flat v.row).map (goRC c) ∧ RowFull u) ∧ (∀ seg, (Dc.del1 x c).texts seg ≠ none ↔ x.texts seg ≠ none) ∧ (Dc.del1 x c).made = x.made := by
   have e : Dc.del1 x c = ⟨setT x.texts s.seg (cutY t c), x.made⟩ := by unfold Dc.del1; rw [hs]; simp only; rw [ht]
   rw [e]
   refine ⟨fun seg u hu => ?_, fun seg => ?_, rfl⟩
   ·simp only [setT] at hu
    split at hu
    ·rename_i hq
     cases hu
     exact ⟨t, by rw [hq]; exact ht, cutR_flat _ _, (h1 _ t ht).cut c⟩
    ·rename_i hq
     refine ⟨u, hu, (map_go_id fun r hr => goRC_out ?_).symm, h1 _ u hu⟩
     obtain ⟨p, hp, h5, h6, h7⟩ := h2 seg u r hu hr
     unfold inCut
     rw [Bool.eq_false_iff]
     intro e
     simp only [Bool.and_eq_true, decide_eq_true_eq] at e
     have hsz : 0 < p.size := by
      unfold Op.size
      rcases h7 with ⟨h7, _⟩ | ⟨h7, _, k, _, hk⟩
      ·rw [if_neg (by rw [h7]; decide), if_pos h7]; decide
      ·rw [if_pos h7]
       have := (List.getElem?_eq_some_iff.1 hk).1
       omega
     have h8 := (h4 c.op ⟨p.seg, p.size, decide (p.kind = 5)⟩).2 ⟨p, hp, h5.trans e.1.1, hsz, rfl⟩
     rw [hs] at h8
     cases h8
     exact hq h6.symm
   ·simp only [setT]
    by_cases hq : seg = s.seg
    ·rw [if_pos hq, hq, ht]; simp
    ·rw [if_neg hq]
  obtain ⟨s1, s2, s3⟩ := hstep
  have hsh : ∀ seg u r, (Dc.del1 x c).texts seg = some u → r ∈ flat u.row → ∃ v r', x.texts seg = some v ∧ r' ∈ flat v.row ∧ r = goRC c r' := by
   intro seg u r hu hr
   obtain ⟨v, hv, hf, _⟩ := s1 seg u hu
   rw [hf] at hr
   obtain ⟨r', hr', rfl⟩ := List.mem_map.1 hr
   exact ⟨v, r', hv, hr', rfl⟩
  obtain ⟨r1, r2, r3, r4, r5⟩ := delX_full (ops := ops) (n := n) l (Dc.del1 x c) (done ++ [c]) (hx.del1 c) (fun d hd => by rw [s3]; exact hc d (by simp [hd])) (fun seg u hu => (s1 seg u hu).choose_spec.2.2)
   (fun seg u r hu hr => by
    obtain ⟨v, r', hv, hr', rfl⟩ := hsh seg u r hu hr
    obtain ⟨p, hp, q⟩ := h2 seg v r' hv hr'
    obtain ⟨e1, e2, e3, _⟩ := goRC_eq c r'
    exact ⟨p, hp, by rw [e1, e2, e3]; exact q⟩)
   (fun seg u r hu hr => by
    obtain ⟨v, r', hv, hr', rfl⟩ := hsh seg u r hu hr
    obtain ⟨e1, e2, e3, e4⟩ := goRC_eq c r'
    rw [e4, e1, h3 seg v r' hv hr']
    simp only [List.mem_append, List.mem_singleton]
    constructor
    ·rintro ((h | ⟨k, hk, h⟩) | h)
     ·exact .inl h
     ·exact .inr ⟨k, .inl hk, h⟩
     ·exact .inr ⟨c, .inr rfl, h⟩
    ·rintro (h | ⟨k, hk | rfl, h⟩)
     ·exact .inl (.inl h)
     ·exact .inl (.inr ⟨k, hk, h⟩)
     ·exact .inr h)
   (fun i q => by rw [s3]; exact h4 i q)
  refine ⟨r1, r2, fun seg t r ht hr => ?_, fun seg => (r4 seg).trans (s2 seg), r5.trans s3⟩
  have h9 : (r.gone = true ↔ isGone ops r.c ∨ ∃ k ∈ done ++ [c] ++ l, inCut k r.c = true) := r3 seg t r ht hr
  rw [h9, List.append_assoc, List.singleton_append]
theorem delErr_made : ∀ {l : List Cut} {x : TX}, delErr x l = 0 → ∀ c ∈ l, x.made c.op ≠ none
 | [], _, _, _, hc => by cases hc
 | d :: l, x, h, c, hc => by
  unfold delErr at h
  cases hm : x.made d.op with
  | none => rw [hm] at h; cases h
  | some s =>
   rw [hm] at h
   simp only at h
   split at h
   ·cases h
   ·rcases List.mem_cons.1 hc with rfl | hc
    ·rw [hm]; simp
    ·exact delErr_made h c hc
theorem Full.del {x : TX} {ops : List Op} {n : Nat} (h : Full x ops) (hx : TxOk x n) {o : Op} (he : delErr x o.cuts = 0) (hk : o.kind = 4) : Full (delX x o.cuts) (ops ++ [o]) := by
 have hs : o.size = 0 := size_zero (by rw [hk]; decide) (by rw [hk]; decide)
 obtain ⟨r1, r2, r3, r4, r5⟩ := delX_full (ops := ops) (n := n) o.cuts x [] hx (delErr_made he) h.row h.shows (fun seg t r ht hr => by rw [h.gone seg t r ht hr]; simp) h.made
 refine ⟨r1, fun s t r ht hr => shows_mono (r2 s t r ht hr), fun s t r ht hr => ?_, ?_, fun i s => ?_, fun seg => ?_⟩
 ·rw [gone_snoc]
  simpa using r3 s t r ht hr
 ·intro p hp c hcp
  rw [r5]
  rcases List.mem_append.1 hp with hp | hp
  ·exact h.cuts p hp c hcp
  ·rw [List.mem_singleton.1 hp] at hcp; exact delErr_made he c hcp
 ·rw [r5, h.made]
  constructor
  ·rintro ⟨p, hp, h2⟩; exact ⟨p, by simp [hp], h2⟩
  ·rintro ⟨p, hp, h1, h2, h3⟩
   rcases List.mem_append.1 hp with hp | hp
   ·exact ⟨p, hp, h1, h2, h3⟩
   ·rw [List.mem_singleton.1 hp, hs] at h2; omega
 ·rw [r4, h.texts]
  constructor
  ·rintro ⟨p, hp, h2⟩; exact ⟨p, by simp [hp], h2⟩
  ·rintro ⟨p, hp, h1, h2⟩
   rcases List.mem_append.1 hp with hp | hp
   ·exact ⟨p, hp, h1, h2⟩
   ·rw [List.mem_singleton.1 hp, hk] at h1; exact absurd h1 (by decide)
theorem Full.write {x : TX} {ops : List Op} {n : Nat} (h : Full x ops) (hx : TxOk x n) {o : Op} (hok : o.ok = true) (he : writeErr x o = 0) : Full (writeX x o) (ops ++ [o]) := by
 unfold writeErr at he
 unfold writeX
 split
 ·rename_i hk
  exact h.open' hk hok
 ·rename_i hk
  rw [if_neg hk] at he
  split
  ·rename_i hk2
   rw [if_pos hk2] at he
   unfold doXErr at he
   unfold doX
   rw [if_neg (by simp [hok])] at he
   split
   ·rename_i hs
    rw [if_pos hs] at he
    refine h.ins hx he hok hk fun e => ?_
    rw [size_zero (by rw [e]; decide) (by rw [e]; decide)] at hs
    omega
   ·rename_i hs
    rw [if_neg hs] at he
    by_cases hk4 : o.kind = 4
    ·rw [if_pos hk4] at he
     exact h.del hx he hk4
    ·rw [if_neg hk4] at he; cases he
  ·rename_i hk2
   have hc : o.cuts = [] := own_cuts hok fun e => hk2 (.inr (.inr e))
   refine h.plain (size_zero (fun e => hk2 (.inl e)) (fun e => hk2 (.inr (.inl e)))) hc hk
structure DocFull (d : Doc) : Prop extends DocOk d, DocIn d where
 full : Full d.tx d.ops
theorem DocFull.new : DocFull .new := ⟨DocOk.new, DocIn.new, Full.new⟩
theorem DocFull.act {d : Doc} (h : DocFull d) (o : Op) : DocFull (d.act o) := by
 refine ⟨h.toDocOk.act o, h.toDocIn.act o, ?_⟩
 unfold Doc.act
 split
 ·rename_i he
  obtain ⟨hok, _, _, hw⟩ := err_parts he
  exact h.full.write h.tx hok hw
 ·exact h.full
end Dc
