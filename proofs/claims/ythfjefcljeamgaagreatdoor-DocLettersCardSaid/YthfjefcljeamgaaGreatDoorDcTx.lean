/- joined: The tree of a text's characters: what stays true when characters join it. A row of runs as the row of its characters: split, mend, put and cut. The texts and the whole document: what stays true behind every op. -/
import Derived.Test.YthfjefcljeamgaaGreatDoorDcTree
namespace Dc
open Off (Bid rightOp rightBlock)
def Node.put (n : Node) (s : Bool) (i : Nat) (c : Chr) : Node := if s then { n with r := insertAt n.r i c } else { n with l := insertAt n.l i c }
theorem Node.put_up (n : Node) (s : Bool) (i : Nat) (c : Chr) : (n.put s i c).up = n.up := by unfold put; cases s <;> rfl
theorem Node.put_side (n : Node) (s t : Bool) (i : Nat) (c : Chr) : (n.put s i c).side t = if t = s then insertAt (n.side s) i c else n.side t := by
 unfold put side; cases s <;> cases t <;> simp
theorem Node.put_side_same (n : Node) (s : Bool) (i : Nat) (c : Chr) : (n.put s i c).side s = insertAt (n.side s) i c := by rw [put_side, if_pos rfl]
theorem Node.put_side_other (n : Node) {s t : Bool} (h : t ≠ s) (i : Nat) (c : Chr) : (n.put s i c).side t = n.side t := by rw [put_side, if_neg h]
theorem sit_some {N : Nodes} {c : Chr} {s : Seat} {n : Node} (h : N s.up = some n) : sit N c s = setNode (setNode N s.up (n.put s.side s.pos c)) c ⟨s.up, [], []⟩ := by
 unfold sit Node.put; rw [h]
theorem sit_at {N : Nodes} {c : Chr} {s : Seat} {n : Node} (h : N s.up = some n) (x : Chr) :
  sit N c s x = if x = c then some ⟨s.up, [], []⟩ else if x = s.up then some (n.put s.side s.pos c) else N x := by
 rw [sit_some h]; unfold setNode; rfl
/-- the tree of characters is whole -/
structure NodesOk (N : Nodes) (rk : Chr → Nat) (B M : Nat) : Prop where
 root : ∃ n, N .z = some n ∧ n.up = .z
 up : ∀ c n, N c = some n → ∃ m, N n.up = some m
 down : ∀ c n s x, N c = some n → x ∈ n.side s → x ≠ .z ∧ ∃ m, N x = some m ∧ m.up = c
 rank : ∀ c n, N c = some n → c ≠ .z → rk n.up < rk c
 bound : ∀ c, N c ≠ none → rk c ≤ B
 sorted : ∀ c n s, N c = some n → (n.side s).Pairwise fun a b => orderId a.op b.op < 0
 small : ∀ c n s, N c = some n → (n.side s).length ≤ M
theorem NodesOk.new : NodesOk YT.new.nodes (fun _ => 0) 0 0 := by
 have h : ∀ c n, YT.new.nodes c = some n → c = .z ∧ n = ⟨.z, [], []⟩ := by
  intro c n e
  unfold YT.new at e
  simp only at e
  split at e
  ·cases e; exact ⟨by assumption, rfl⟩
  ·cases e
 refine ⟨⟨⟨.z, [], []⟩, by simp [YT.new], rfl⟩, ?_, ?_, ?_, ?_, ?_, ?_⟩
 ·intro c n e; obtain ⟨rfl, rfl⟩ := h c n e; exact ⟨_, e⟩
 ·intro c n s x e hx; obtain ⟨rfl, rfl⟩ := h c n e; cases s <;> simp [Node.side] at hx
 ·intro c n e hc; obtain ⟨rfl, rfl⟩ := h c n e; exact absurd rfl hc
 ·intro c _; exact Nat.le_refl _
 ·intro c n s e; obtain ⟨rfl, rfl⟩ := h c n e; cases s <;> simp [Node.side]
 ·intro c n s e; obtain ⟨rfl, rfl⟩ := h c n e; cases s <;> simp [Node.side]
theorem chrAt_le (l : List Chr) (id : Bid) : chrAt l id ≤ l.length := takeWhile_le _ _
theorem chrAt_split {l : List Chr} (hs : l.Pairwise fun a b => orderId a.op b.op < 0) (id : Bid) (j : Nat) (hj : j < l.length) : decide (orderId l[j].op id < 0) = decide (j < chrAt l id) :=
 split_at (fun c : Chr => decide (orderId c.op id < 0)) l (fun i k hi hk hik hh => by
  rcases Nat.eq_or_lt_of_le hik with rfl | hlt
  ·exact hh
  ·simp only [decide_eq_true_eq] at hh ⊢
   exact orderId_trans (List.pairwise_iff_getElem.1 hs i k hi hk hlt) hh) j hj
def rkSet (rk : Chr → Nat) (c : Chr) (k : Nat) : Chr → Nat := fun x => if x = c then k else rk x
theorem sit_ok {N : Nodes} {rk : Chr → Nat} {B M : Nat} (h : NodesOk N rk B M) {c : Chr} {s : Seat} {n : Node} (hc : N c = none) (hu : N s.up = some n)
  (hp : s.pos = chrAt (n.side s.side) c.op) (hne : ∀ x ∈ n.side s.side, x.op ≠ c.op) :
  NodesOk (sit N c s) (rkSet rk c (rk s.up + 1)) (B + 1) (M + 1) := by
 have hcu : s.up ≠ c := fun e => by rw [e, hc] at hu; cases hu
 have hget := fun x => sit_at (c := c) hu x
 have hz : c ≠ .z := fun e => by obtain ⟨m, h1, _⟩ := h.root; rw [e, h1] at hc; cases hc
 -- each old node is still there, with the same parent
 have hold : ∀ x m, N x = some m → ∃ m', sit N c s x = some m' ∧ m'.up = m.up ∧ x ≠ c ∧ (x = s.up ∧ m' = n.put s.side s.pos c ∧ m = n ∨ x ≠ s.up ∧ m' = m) := by
  intro x m hx
  have hxc : x ≠ c := fun e => by rw [e, hc] at hx; cases hx
  rw [hget, if_neg hxc]
  by_cases hxu : x = s.up
  ·subst hxu
   rw [hu] at hx; cases hx
   exact ⟨_, if_pos rfl, Node.put_up _ _ _ _, hxc, .inl ⟨rfl, rfl, rfl⟩⟩
  ·exact ⟨m, by rw [if_neg hxu]; exact hx, rfl, hxc, .inr ⟨hxu, rfl⟩⟩
 have hinv : ∀ x m', sit N c s x = some m' → (x = c ∧ m' = ⟨s.up, [], []⟩) ∨ (x ≠ c ∧ ∃ m, N x = some m ∧ m'.up = m.up ∧ (x = s.up ∧ m' = n.put s.side s.pos c ∧ m = n ∨ x ≠ s.up ∧ m' = m)) := by
  intro x m' hx
  rw [hget] at hx
  by_cases hxc : x = c
  ·rw [if_pos hxc] at hx; cases hx; exact .inl ⟨hxc, rfl⟩
  ·rw [if_neg hxc] at hx
   by_cases hxu : x = s.up
   ·rw [if_pos hxu] at hx; cases hx
    exact .inr ⟨hxc, n, by rw [hxu]; exact hu, Node.put_up _ _ _ _, .inl ⟨hxu, rfl, rfl⟩⟩
   ·rw [if_neg hxu] at hx
    exact .inr ⟨hxc, m', hx, rfl, .inr ⟨hxu, rfl⟩⟩
 have hrk : ∀ x, x ≠ c → rkSet rk c (rk s.up + 1) x = rk x := fun x hx => by unfold rkSet; rw [if_neg hx]
 have hrkc : rkSet rk c (rk s.up + 1) c = rk s.up + 1 := by unfold rkSet; rw [if_pos rfl]
 refine ⟨?_, ?_, ?_, ?_, ?_, ?_, ?_⟩
 ·obtain ⟨m, h1, h2⟩ := h.root
  obtain ⟨m', h3, h4, _⟩ := hold _ _ h1
  exact ⟨m', h3, h4.trans h2⟩
 ·intro x m' hx
  rcases hinv x m' hx with ⟨rfl, rfl⟩ | ⟨hxc, m, h1, h2, _⟩
  ·obtain ⟨m', h3, _⟩ := hold _ _ hu
   exact ⟨m', h3⟩
  ·obtain ⟨q, hq⟩ := h.up _ _ h1
   obtain ⟨q', h3, _⟩ := hold _ _ hq
   exact ⟨q', by rw [h2]; exact h3⟩
 ·intro x m' t y hx hy
  rcases hinv x m' hx with ⟨rfl, rfl⟩ | ⟨hxc, m, h1, h2, h3⟩
  ·cases t <;> simp [Node.side] at hy
  ·have old : y ∈ m.side t → y ≠ .z ∧ ∃ q, sit N c s y = some q ∧ q.up = x := fun hy => by
    obtain ⟨h4, q, h5, h6⟩ := h.down _ _ t y h1 hy
    obtain ⟨q', h7, h8, _⟩ := hold _ _ h5
    exact ⟨h4, q', h7, h8.trans h6⟩
   rcases h3 with ⟨rfl, rfl, rfl⟩ | ⟨_, rfl⟩
   ·by_cases ht : t = s.side
    ·subst ht
     rw [Node.put_side_same, mem_insertAt] at hy
     rcases hy with rfl | hy
     ·exact ⟨hz, ⟨s.up, [], []⟩, by rw [hget, if_pos rfl], rfl⟩
     ·exact old hy
    ·rw [Node.put_side_other _ ht] at hy
     exact old hy
   ·exact old hy
 ·intro x m' hx hxz
  rcases hinv x m' hx with ⟨rfl, rfl⟩ | ⟨hxc, m, h1, h2, _⟩
  ·rw [hrkc, hrk _ hcu]; exact Nat.lt_succ_self _
  ·obtain ⟨q, hq⟩ := h.up _ _ h1
   have hqc : m.up ≠ c := fun e => by rw [e, hc] at hq; cases hq
   rw [hrk _ hxc, h2, hrk _ hqc]
   exact h.rank _ _ h1 hxz
 ·intro x hx
  cases hs : sit N c s x with
  | none => exact absurd hs hx
  | some m' =>
   rcases hinv x m' hs with ⟨rfl, rfl⟩ | ⟨hxc, m, h1, _⟩
   ·rw [hrkc]; have := h.bound s.up (by rw [hu]; simp); omega
   ·rw [hrk _ hxc]; have := h.bound x (by rw [h1]; simp); omega
 ·intro x m' t hx
  rcases hinv x m' hx with ⟨rfl, rfl⟩ | ⟨hxc, m, h1, h2, h3⟩
  ·cases t <;> simp [Node.side]
  ·have old := h.sorted _ _ t h1
   rcases h3 with ⟨rfl, rfl, rfl⟩ | ⟨_, rfl⟩
   ·by_cases ht : t = s.side
    ·subst ht
     rw [Node.put_side_same, hp]
     refine sorted_insert (c := fun a b : Chr => orderId a.op b.op) old c (chrAt_le _ _) (chrAt_split old _) ?_
     intro y hy hny
     have h1 : ¬ orderId y.op c.op = 0 := fun e => hne y hy (orderId_zero.1 e)
     exact orderId_swap.2 (by omega)
    ·rw [Node.put_side_other _ ht]; exact old
   ·exact old
 ·intro x m' t hx
  rcases hinv x m' hx with ⟨rfl, rfl⟩ | ⟨hxc, m, h1, h2, h3⟩
  ·cases t <;> simp [Node.side]
  ·have old := h.small _ _ t h1
   rcases h3 with ⟨rfl, rfl, rfl⟩ | ⟨_, rfl⟩
   ·by_cases ht : t = s.side
    ·subst ht
     rw [Node.put_side_same, length_insertAt (by rw [hp]; exact chrAt_le _ _)]
     omega
    ·rw [Node.put_side_other _ ht]; omega
   ·omega
theorem NodesOk.mono {N : Nodes} {rk : Chr → Nat} {B M B' M' : Nat} (h : NodesOk N rk B M) (hB : B ≤ B') (hM : M ≤ M') : NodesOk N rk B' M' :=
 ⟨h.root, h.up, h.down, h.rank, fun c hc => Nat.le_trans (h.bound c hc) hB, h.sorted, fun c n s hn => Nat.le_trans (h.small c n s hn) hM⟩
/-- the characters behind the first of an op -/
theorem sitRest_ok (id : Bid) : ∀ (k i : Nat) (N : Nodes) (rk : Chr → Nat) (B M : Nat), NodesOk N rk B (M + 1) → (∃ n, N ⟨id, (i : Int) - 1⟩ = some n ∧ n.r = []) → (∀ j : Nat, i ≤ j → N ⟨id, j⟩ = none) →
  ∃ rk', NodesOk (sitRest id i k N) rk' (B + k) (M + 1)
 | 0, _, N, rk, B, M, h, _, _ => ⟨rk, h⟩
 | k + 1, i, N, rk, B, M, h, ⟨n, hn, hr⟩, hf => by
  unfold sitRest
  have hc := hf i (Nat.le_refl _)
  have hp : (⟨⟨id, (i : Int) - 1⟩, true, 0⟩ : Seat).pos = chrAt (n.side true) (⟨id, i⟩ : Chr).op := by
   simp [Node.side, hr, chrAt]
  have hget := fun x => sit_at (c := ⟨id, i⟩) (s := ⟨⟨id, (i : Int) - 1⟩, true, 0⟩) hn x
  have h1 := sit_ok h (s := ⟨⟨id, (i : Int) - 1⟩, true, 0⟩) hc hn hp (by simp [Node.side, hr])
  have h2 : NodesOk (sit N ⟨id, i⟩ ⟨⟨id, (i : Int) - 1⟩, true, 0⟩) (rkSet rk ⟨id, i⟩ (rk ⟨id, (i : Int) - 1⟩ + 1)) (B + 1) (M + 1) := by
   refine ⟨h1.root, h1.up, h1.down, h1.rank, h1.bound, h1.sorted, ?_⟩
   intro c m s hm
   rw [hget] at hm
   split at hm
   ·cases hm; cases s <;> simp [Node.side]
   ·split at hm
    ·cases hm
     by_cases hs : s = true
     ·subst hs
      rw [Node.put_side_same]
      simp [Node.side, hr, insertAt]
     ·rw [Node.put_side_other _ hs]; exact h.small _ _ _ hn
    ·exact h.small _ _ _ hm
  obtain ⟨rk', h3⟩ := sitRest_ok id k (i + 1) _ _ (B + 1) M h2 ⟨⟨⟨id, (i : Int) - 1⟩, [], []⟩, by rw [hget, if_pos (by simp <;> omega)], rfl⟩ (fun j hj => by
   rw [hget, if_neg (by simp <;> omega), if_neg (by simp <;> omega)]
   exact hf j (by omega))
  exact ⟨rk', h3.mono (by omega) (Nat.le_refl _)⟩
/-- the seat of an op's first character -/
theorem seat_up {N : Nodes} {o : Op} (hl : N o.left ≠ none) (hr : N o.right ≠ none) : ∃ n, N (seatOf N o).up = some n := by
 unfold seatOf
 simp only
 split
 ·exact Option.ne_none_iff_exists'.1 hr
 ·exact Option.ne_none_iff_exists'.1 hl
theorem seat_pos {N : Nodes} {o : Op} {n : Node} (h : N (seatOf N o).up = some n) : (seatOf N o).pos = chrAt (n.side (seatOf N o).side) o.id := by
 have e : (seatOf N o).pos = chrAt (sideOf N (seatOf N o).up (seatOf N o).side) o.id := rfl
 rw [e]
 unfold sideOf
 rw [h]
theorem insY_nodes_ok {t : YT} {rk : Chr → Nat} {B M : Nat} (h : NodesOk t.nodes rk B M) {o : Op} (hl : t.nodes o.left ≠ none) (hr : t.nodes o.right ≠ none) (hs : 0 < o.size) (hf : ∀ c : Chr, c.op = o.id → t.nodes c = none) :
  ∃ rk', NodesOk (insY t o).nodes rk' (B + o.size) (M + 1) := by
 obtain ⟨n, hn⟩ := seat_up hl hr
 have hc : t.nodes ⟨o.id, 0⟩ = none := hf _ rfl
 have h1 := sit_ok h (c := ⟨o.id, 0⟩) hc hn (seat_pos hn) (fun x hx e => by
  obtain ⟨_, m, h2, _⟩ := h.down _ _ _ x hn hx
  rw [hf x e] at h2; cases h2)
 have hget := fun x => sit_at (c := ⟨o.id, 0⟩) hn x
 have hup : (seatOf t.nodes o).up ≠ ⟨o.id, 0⟩ := fun e => by rw [e, hc] at hn; cases hn
 obtain ⟨rk', h2⟩ := sitRest_ok o.id (o.size - 1) 1 _ _ (B + 1) M h1 ⟨⟨(seatOf t.nodes o).up, [], []⟩, by rw [hget, if_pos (by simp)], rfl⟩ (fun j hj => by
  rw [hget, if_neg (by simp <;> omega), if_neg]
  ·exact hf _ rfl
  ·intro e
   rw [← e, hf _ rfl] at hn
   cases hn)
 exact ⟨rk', h2.mono (by omega) (Nat.le_refl _)⟩
/-- which characters are there behind an insertion -/
theorem sitRest_there (id : Bid) : ∀ (k i : Nat) (N : Nodes) (c : Chr), (∃ n, N ⟨id, (i : Int) - 1⟩ = some n) → (sitRest id i k N c ≠ none ↔ N c ≠ none ∨ (c.op = id ∧ (i : Int) ≤ c.i ∧ c.i < (i : Int) + k))
 | 0, i, N, c, _ => by
  unfold sitRest
  constructor
  ·exact .inl
  ·rintro (h | ⟨_, h1, h2⟩)
   ·exact h
   ·simp at h2; omega
 | k + 1, i, N, c, ⟨n, hn⟩ => by
  unfold sitRest
  have hget := fun x => sit_at (c := ⟨id, i⟩) (s := ⟨⟨id, (i : Int) - 1⟩, true, 0⟩) hn x
  rw [sitRest_there id k (i + 1) _ c ⟨⟨⟨id, (i : Int) - 1⟩, [], []⟩, by rw [hget, if_pos (by simp <;> omega)]⟩, hget]
  by_cases hc : c = ⟨id, i⟩
  ·subst hc
   simp
   exact .inr (by omega)
  ·rw [if_neg hc]
   by_cases hc2 : c = ⟨id, (i : Int) - 1⟩
   ·subst hc2
    rw [if_pos rfl]
    simp [hn]
   ·rw [if_neg hc2]
    obtain ⟨op, x⟩ := c
    simp only [Chr.mk.injEq, not_and] at hc hc2
    constructor
    ·rintro (h | ⟨h1, h2, h3⟩)
     ·exact .inl h
     ·exact .inr ⟨h1, by push_cast at *; omega, by push_cast at *; omega⟩
    ·rintro (h | ⟨h1, h2, h3⟩)
     ·exact .inl h
     ·have := hc h1
      exact .inr ⟨h1, by push_cast at *; omega, by push_cast at *; omega⟩
theorem insY_there {t : YT} {o : Op} (hl : t.nodes o.left ≠ none) (hr : t.nodes o.right ≠ none) (hs : 0 < o.size) (c : Chr) :
  (insY t o).nodes c ≠ none ↔ t.nodes c ≠ none ∨ (c.op = o.id ∧ 0 ≤ c.i ∧ c.i < o.size) := by
 obtain ⟨n, hn⟩ := seat_up hl hr
 have hget := fun x => sit_at (c := ⟨o.id, 0⟩) hn x
 show sitRest o.id 1 (o.size - 1) (sit t.nodes ⟨o.id, 0⟩ (seatOf t.nodes o)) c ≠ none ↔ _
 rw [sitRest_there o.id (o.size - 1) 1 _ c ⟨⟨(seatOf t.nodes o).up, [], []⟩, by rw [hget, if_pos (by simp)]⟩, hget]
 by_cases hc : c = ⟨o.id, 0⟩
 ·subst hc
  simp
  omega
 ·rw [if_neg hc]
  by_cases hc2 : c = (seatOf t.nodes o).up
  ·rw [if_pos hc2, hc2]
   simp [hn]
  ·rw [if_neg hc2]
   obtain ⟨op, x⟩ := c
   simp only [Chr.mk.injEq, not_and] at hc
   constructor
   ·rintro (h | ⟨h1, h2, h3⟩)
    ·exact .inl h
    ·simp only at h1 h2 h3
     exact .inr ⟨h1, by simp only; omega, by simp only; omega⟩
   ·rintro (h | ⟨h1, h2, h3⟩)
    ·exact .inl h
    ·have := hc h1
     simp only at h2 h3
     exact .inr ⟨h1, by simp only; omega, by simp only; omega⟩
end Dc
namespace Dc
open Off (Bid rightOp rightBlock)
/-- a character of a row -/
structure RC where
 c : Chr
 gone : Bool
 mark : Bool
 b : UInt8
 deriving DecidableEq, Repr
def flatFrom (op : Bid) (gone mark : Bool) : Nat → Bs → List RC
 | _, [] => []
 | k, b :: t => ⟨⟨op, (k : Int)⟩, gone, mark, b⟩ :: flatFrom op gone mark (k + 1) t
def flat1 (r : Run) : List RC := flatFrom r.op r.gone r.mark r.fr r.text
def flat (l : Row) : List RC := l.flatMap flat1
section
variable (op : Bid) (gone mark : Bool)
theorem flatFrom_length : ∀ (k : Nat) (t : Bs), (flatFrom op gone mark k t).length = t.length
 | _, [] => rfl
 | k, b :: t => by simp [flatFrom, flatFrom_length (k + 1) t]
theorem flatFrom_append : ∀ (k : Nat) (a b : Bs), flatFrom op gone mark k (a ++ b) = flatFrom op gone mark k a ++ flatFrom op gone mark (k + a.length) b
 | _, [], _ => by simp [flatFrom]
 | k, x :: a, b => by
  have := flatFrom_append (k + 1) a b
  simp only [List.cons_append, flatFrom, this, List.length_cons]
  rw [show k + 1 + a.length = k + (a.length + 1) by omega]
theorem flatFrom_get : ∀ (k : Nat) (t : Bs) (j : Nat) (h : j < t.length), (flatFrom op gone mark k t)[j]? = some ⟨⟨op, ((k + j : Nat) : Int)⟩, gone, mark, t[j]⟩
 | _, [], j, h => absurd h (Nat.not_lt_zero _)
 | k, x :: t, 0, _ => by simp [flatFrom]
 | k, x :: t, j + 1, h => by
  have h' : j < t.length := by simpa using h
  have := flatFrom_get (k + 1) t j h'
  simp only [flatFrom, List.getElem?_cons_succ, this, List.getElem_cons_succ]
  rw [show k + 1 + j = k + (j + 1) by omega]
theorem flatFrom_mem {k : Nat} {t : Bs} {x : RC} : x ∈ flatFrom op gone mark k t ↔ ∃ j, ∃ h : j < t.length, x = ⟨⟨op, ((k + j : Nat) : Int)⟩, gone, mark, t[j]⟩ := by
 constructor
 ·intro hx
  obtain ⟨j, hj⟩ := List.getElem?_of_mem hx
  have hlt : j < t.length := by rw [← flatFrom_length op gone mark k t]; exact (List.getElem?_eq_some_iff.1 hj).1
  rw [flatFrom_get op gone mark k t j hlt] at hj
  exact ⟨j, hlt, (Option.some.inj hj).symm⟩
 ·rintro ⟨j, h, rfl⟩
  exact List.mem_of_getElem? (flatFrom_get op gone mark k t j h)
end
theorem flat1_length (r : Run) : (flat1 r).length = r.len := flatFrom_length _ _ _ _ _
theorem flat_nil : flat [] = [] := rfl
theorem flat_cons (r : Run) (l : Row) : flat (r :: l) = flat1 r ++ flat l := by simp [flat]
theorem flat_append (l m : Row) : flat (l ++ m) = flat l ++ flat m := by simp [flat]
theorem flat_length : ∀ l : Row, (flat l).length = lenR l
 | [] => rfl
 | r :: l => by rw [flat_cons, List.length_append, flat1_length, flat_length l]; rfl
theorem lenR_append (l m : Row) : lenR (l ++ m) = lenR l + lenR m := by rw [← flat_length, flat_append, List.length_append, flat_length, flat_length]
theorem flat1_mem {r : Run} {x : RC} : x ∈ flat1 r ↔ ∃ j, ∃ h : j < r.len, x = ⟨⟨r.op, ((r.fr + j : Nat) : Int)⟩, r.gone, r.mark, r.text[j]⟩ := flatFrom_mem _ _ _
theorem flat1_left {r : Run} {n : Nat} : flat1 (r.left n) = (flat1 r).take n := by
 unfold flat1 Run.left
 simp only
 have h := flatFrom_append r.op r.gone r.mark r.fr (r.text.take n) (r.text.drop n)
 rw [List.take_append_drop] at h
 rw [h, List.take_append, flatFrom_length]
 have h1 : (flatFrom r.op r.gone r.mark r.fr (r.text.take n)).take n = flatFrom r.op r.gone r.mark r.fr (r.text.take n) := List.take_of_length_le (by rw [flatFrom_length]; exact List.length_take_le _ _)
 rw [h1]
 by_cases hn : n ≤ r.text.length
 ·rw [List.length_take, Nat.min_eq_left hn, Nat.sub_self]; simp
 ·rw [List.drop_of_length_le (by omega)]; simp [flatFrom]
theorem flat1_right {r : Run} {n : Nat} (hn : n ≤ r.len) : flat1 (r.right n) = (flat1 r).drop n := by
 unfold flat1 Run.right
 simp only
 have h := flatFrom_append r.op r.gone r.mark r.fr (r.text.take n) (r.text.drop n)
 rw [List.take_append_drop] at h
 have hl : (r.text.take n).length = n := by rw [List.length_take]; exact Nat.min_eq_left hn
 have hz : (flatFrom r.op r.gone r.mark r.fr (r.text.take n)).drop n = [] := List.drop_of_length_le (by rw [flatFrom_length, hl]; exact Nat.le_refl _)
 rw [h, List.drop_append, hz, flatFrom_length, hl, Nat.sub_self]
 simp
theorem len_left {r : Run} {n : Nat} (hn : n ≤ r.len) : (r.left n).len = n := by unfold Run.left Run.len; simp only [List.length_take]; exact Nat.min_eq_left hn
theorem len_right (r : Run) (n : Nat) : (r.right n).len = r.len - n := by unfold Run.right Run.len; simp
/-- runs that are no shorter than one and no longer than an op's characters -/
def RunOk (r : Run) : Prop := 1 ≤ r.len ∧ r.fr + r.len ≤ 64
def RowOk (l : Row) : Prop := ∀ r ∈ l, RunOk r
theorem RowOk.nil : RowOk [] := fun _ h => absurd h (by simp)
theorem RowOk.append {l m : Row} (h : RowOk l) (h' : RowOk m) : RowOk (l ++ m) := fun r hr => (List.mem_append.1 hr).elim (h r) (h' r)
theorem RowOk.cons {r : Run} {l : Row} (h : RunOk r) (h' : RowOk l) : RowOk (r :: l) := fun x hx => by
 rcases List.mem_cons.1 hx with rfl | hx
 ·exact h
 ·exact h' x hx
theorem RowOk.head {r : Run} {l : Row} (h : RowOk (r :: l)) : RunOk r := h r (by simp)
theorem RowOk.tail {r : Run} {l : Row} (h : RowOk (r :: l)) : RowOk l := fun x hx => h x (by simp [hx])
theorem RowOk.len_le : ∀ {l : Row}, RowOk l → l.length ≤ lenR l
 | [], _ => Nat.zero_le _
 | r :: l, h => by
  have h1 := RowOk.len_le h.tail
  have h2 := h.head.1
  simp only [List.length_cons, lenR]
  omega
theorem RunOk.left {r : Run} (h : RunOk r) {n : Nat} (h1 : 1 ≤ n) (h2 : n ≤ r.len) : RunOk (r.left n) := by
 refine ⟨by rw [len_left h2]; exact h1, ?_⟩
 rw [len_left h2]
 have := h.2
 show r.fr + n ≤ 64
 omega
theorem RunOk.right {r : Run} (h : RunOk r) {n : Nat} (h2 : n < r.len) : RunOk (r.right n) := by
 refine ⟨by rw [len_right]; omega, ?_⟩
 rw [len_right]
 have := h.2
 show r.fr + n + (r.len - n) ≤ 64
 omega
theorem splitR_flat : ∀ (l : Row) (k : Nat), flat (splitR l k).1 = flat l
 | [], _ => rfl
 | r :: l, k => by
  unfold splitR
  split
  ·rfl
  ·split
   ·rename_i h1 h2
    simp only
    rw [flat_cons, flat_cons, flat_cons, flat1_left, flat1_right (by omega), ← List.append_assoc, List.take_append_drop]
   ·simp only
    rw [flat_cons, flat_cons, splitR_flat l]
theorem splitR_le : ∀ (l : Row) (k : Nat), (splitR l k).2 ≤ (splitR l k).1.length
 | [], _ => Nat.zero_le _
 | r :: l, k => by
  unfold splitR
  split
  ·exact Nat.zero_le _
  ·split
   ·simp
   ·have := splitR_le l (k - r.len)
    simp only [List.length_cons]
    omega
theorem splitR_ok : ∀ {l : Row} (_ : RowOk l) (k : Nat), RowOk (splitR l k).1
 | [], _, _ => RowOk.nil
 | r :: l, h, k => by
  unfold splitR
  split
  ·exact h
  ·split
   ·rename_i h1 h2
    exact .cons (h.head.left (by omega) (by omega)) (.cons (h.head.right h2) h.tail)
   ·exact .cons h.head (splitR_ok h.tail _)
/-- what stands ahead of the split -/
theorem splitR_take : ∀ (l : Row) (k : Nat), k ≤ lenR l → flat ((splitR l k).1.take (splitR l k).2) = (flat l).take k
 | [], k, h => by simp [splitR, flat]
 | r :: l, k, h => by
  simp only [lenR] at h
  unfold splitR
  split
  ·rename_i h1; subst h1; simp [flat]
  ·split
   ·rename_i h1 h2
    simp only [List.take_succ_cons, List.take_zero]
    rw [flat_cons, flat_nil, List.append_nil, flat1_left, flat_cons, List.take_append, flat1_length, show k - r.len = 0 by omega, List.take_zero, List.append_nil]
   ·rename_i h1 h2
    simp only [List.take_succ_cons]
    rw [flat_cons, splitR_take l _ (by omega), flat_cons, List.take_append, flat1_length, List.take_of_length_le (l := flat1 r) (by rw [flat1_length]; omega)]
theorem splitR_drop (l : Row) (k : Nat) (h : k ≤ lenR l) : flat ((splitR l k).1.drop (splitR l k).2) = (flat l).drop k := by
 have h1 := splitR_take l k h
 have h2 : flat ((splitR l k).1.take (splitR l k).2) ++ flat ((splitR l k).1.drop (splitR l k).2) = flat l := by
  rw [← flat_append, List.take_append_drop, splitR_flat]
 rw [h1] at h2
 have h3 := List.take_append_drop k (flat l)
 exact List.append_cancel_left (h2.trans h3.symm)
theorem joins_iff {r b : Run} : r.joins b = true ↔ r.op = b.op ∧ r.fr + r.len = b.fr ∧ r.gone = b.gone ∧ r.mark = false ∧ b.mark = false := by
 unfold Run.joins
 simp only [Bool.and_eq_true, decide_eq_true_eq, Bool.not_eq_true', and_assoc]
theorem mendStep_flat (out : Row) (r : Run) : flat (mendStep out r) = flat out ++ flat1 r := by
 unfold mendStep
 cases h : out.getLast? with
 | none =>
  rw [List.getLast?_eq_none_iff.1 h]
  simp [flat]
 | some q =>
  simp only
  obtain ⟨hne, hq⟩ : ∃ hne : out ≠ [], out.getLast hne = q := by
   cases out with
   | nil => simp at h
   | cons a t => exact ⟨by simp, by rw [List.getLast?_eq_some_getLast (by simp)] at h; exact Option.some.inj h⟩
  have ho : out = out.dropLast ++ [q] := by rw [← hq]; exact (List.dropLast_concat_getLast hne).symm
  split
  ·rename_i hj
   obtain ⟨h1, h2, h3, h4, h5⟩ := joins_iff.1 hj
   have e : flat out = flat out.dropLast ++ flat1 q := by conv => lhs; rw [ho, flat_append, flat_cons, flat_nil, List.append_nil]
   rw [flat_append, flat_cons, flat_nil, List.append_nil, e, List.append_assoc]
   congr 1
   unfold flat1
   simp only
   rw [flatFrom_append]
   have e2 : q.fr + q.text.length = r.fr := h2
   rw [h1, h3, h4, h5, e2]
  ·rw [flat_append, flat_cons, flat_nil, List.append_nil]
theorem foldl_mend_flat : ∀ (l : Row) (out : Row), flat (l.foldl mendStep out) = flat out ++ flat l
 | [], out => by simp [flat]
 | r :: l, out => by rw [List.foldl_cons, foldl_mend_flat l, mendStep_flat, flat_cons, List.append_assoc]
theorem mendR_flat (l : Row) : flat (mendR l) = flat l := by unfold mendR; rw [foldl_mend_flat]; simp [flat]
theorem mendStep_ok {out : Row} {r : Run} (h : RowOk out) (hr : RunOk r) : RowOk (mendStep out r) := by
 unfold mendStep
 cases hq : out.getLast? with
 | none => exact .cons hr .nil
 | some q =>
  simp only
  split
  ·rename_i hj
   obtain ⟨h1, h2, h3, h4, h5⟩ := joins_iff.1 hj
   refine .append (fun x hx => h x (List.dropLast_subset _ hx)) (.cons ⟨?_, ?_⟩ .nil)
   ·have := hr.1
    unfold Run.len at *
    simp only [List.length_append]
    omega
   ·have h6 := hr.2
    unfold Run.len at *
    simp only [List.length_append]
    omega
  ·exact .append h (.cons hr .nil)
theorem foldl_mend_ok : ∀ (l out : Row), RowOk l → RowOk out → RowOk (l.foldl mendStep out)
 | [], _, _, h => h
 | _ :: l, _, h, h' => foldl_mend_ok l _ h.tail (mendStep_ok h' h.head)
theorem mendR_ok {l : Row} (h : RowOk l) : RowOk (mendR l) := foldl_mend_ok l [] h .nil
theorem lenR_mend (l : Row) : lenR (mendR l) = lenR l := by rw [← flat_length, mendR_flat, flat_length]
theorem rightItem_ok {x : Run} (h : rightItem x = true) : RunOk x := by
 unfold rightItem at h
 simp only [Bool.and_eq_true, decide_eq_true_eq] at h
 exact ⟨h.1.1.1.1.2, h.1.2⟩
theorem putR_ok {l : Row} (h : RowOk l) (k : Int) (x : Run) : RowOk (putR l k x) := by
 unfold putR
 split
 ·exact h
 ·rename_i hz
  have hx : rightItem x = true := by
   unfold putErr at hz
   cases hr : rightItem x with
   | true => rfl
   | false => rw [if_pos hr] at hz; simp at hz
  have hs := splitR_ok h k.toNat
  refine mendR_ok ?_
  unfold insertAt
  exact .append (fun r hr => hs r (List.mem_of_mem_take hr)) (.cons (rightItem_ok hx) (fun r hr => hs r (List.mem_of_mem_drop hr)))
/-- characters put at a place -/
theorem putR_flat {l : Row} {k : Int} {x : Run} (h : putErr l k x = 0) : flat (putR l k x) = (flat l).take k.toNat ++ flat1 x ++ (flat l).drop k.toNat := by
 have hk : 0 ≤ k ∧ k ≤ lenR l := by
  unfold putErr at h
  split at h
  ·cases h
  ·split at h
   ·cases h
   ·omega
 unfold putR
 rw [if_neg (by simp [h])]
 simp only
 rw [mendR_flat]
 unfold insertAt
 rw [flat_append, flat_cons, splitR_take l _ (by omega), splitR_drop l _ (by omega), List.append_assoc]
theorem lenR_put (l : Row) (k : Int) (x : Run) : lenR (putR l k x) ≤ lenR l + x.len := by
 by_cases h : putErr l k x = 0
 ·rw [← flat_length, putR_flat h]
  simp only [List.length_append, List.length_take, List.length_drop, flat1_length, flat_length]
  omega
 ·unfold putR
  rw [if_pos h]
  omega
/-! characters that are gone -/
def inCut (c : Cut) (x : Chr) : Bool := decide (x.op = c.op) && decide (c.fr ≤ x.i) && decide (x.i < c.to)
def goRC (c : Cut) (x : RC) : RC := if inCut c x.c then { x with gone := true } else x
theorem goRC_c (c : Cut) (x : RC) : (goRC c x).c = x.c := by unfold goRC; split <;> rfl
theorem map_go_id {c : Cut} : ∀ {l : List RC}, (∀ x ∈ l, goRC c x = x) → l.map (goRC c) = l
 | [], _ => rfl
 | x :: l, h => by
  rw [List.map_cons, h x (by simp), map_go_id fun y hy => h y (by simp [hy])]
theorem flat1_gone (r : Run) (c : Cut) (h : ∀ j, j < r.len → inCut c ⟨r.op, ((r.fr + j : Nat) : Int)⟩ = true) : flat1 { r with gone := true } = (flat1 r).map (goRC c) := by
 apply List.ext_getElem?
 intro j
 rw [List.getElem?_map]
 unfold flat1
 simp only
 by_cases hj : j < r.text.length
 ·rw [flatFrom_get _ _ _ _ _ _ hj, flatFrom_get _ _ _ _ _ _ hj]
  simp only [Option.map_some]
  congr 1
  unfold goRC
  simp only
  rw [if_pos (h j hj)]
 ·rw [List.getElem?_eq_none (by rw [flatFrom_length]; omega), List.getElem?_eq_none (by rw [flatFrom_length]; omega)]
  rfl
theorem goRC_out {c : Cut} {x : RC} (h : inCut c x.c = false) : goRC c x = x := by unfold goRC; rw [h]; rfl
theorem goRC_gone {c : Cut} {x : RC} (h : x.gone = true) : goRC c x = x := by
 unfold goRC
 split
 ·cases x; simp_all
 ·rfl
theorem cutRun_flat (r : Run) (c : Cut) : flat (cutRun r c).1 = (flat1 r).map (goRC c) := by
 unfold cutRun
 simp only
 split
 ·rename_i h
  rw [flat_cons, flat_nil, List.append_nil]
  refine (map_go_id fun x hx => ?_).symm
  obtain ⟨j, hj, rfl⟩ := flat1_mem.1 hx
  rcases h with h | h | h
  ·exact goRC_out (by unfold inCut; simp [h])
  ·exact goRC_gone h
  ·refine goRC_out ?_
   unfold inCut
   rw [Bool.eq_false_iff]
   intro e
   simp only [Bool.and_eq_true, decide_eq_true_eq] at e
   obtain ⟨⟨e1, e2⟩, e3⟩ := e
   push_cast at e2 e3
   omega
 ·rename_i h
  simp only [not_or] at h
  obtain ⟨h1, h2, h3⟩ := h
  have hop : r.op = c.op := Classical.not_not.1 h1
  obtain ⟨i, hi⟩ : ∃ i : Nat, (max c.fr r.fr - r.fr).toNat = i := ⟨_, rfl⟩
  obtain ⟨j, hj⟩ : ∃ j : Nat, (min c.to (r.fr + r.len) - r.fr).toNat = j := ⟨_, rfl⟩
  rw [hi, hj]
  have hil : (i : Int) = max c.fr r.fr - r.fr := by omega
  have hjl : (j : Int) = min c.to (r.fr + r.len) - r.fr := by omega
  have hij : i < j := by omega
  have hjr : j ≤ r.len := by omega
  -- the three parts
  have hA : flat (if (r.fr : Int) < max c.fr r.fr then [r.left i] else []) = (flat1 r).take i := by
   split
   ·rw [flat_cons, flat_nil, List.append_nil, flat1_left]
   ·have : i = 0 := by omega
    rw [this]; simp [flat]
  have hC : flat (if min c.to (r.fr + r.len) < (r.fr : Int) + r.len then [r.right j] else []) = (flat1 r).drop j := by
   split
   ·rw [flat_cons, flat_nil, List.append_nil, flat1_right hjr]
   ·have : j = r.len := by omega
    rw [this, List.drop_of_length_le (by rw [flat1_length]; exact Nat.le_refl _)]; rfl
  have hlj : ((r.left j).right i).len = j - i := by rw [len_right, len_left hjr]
  have hB : flat1 { (r.left j).right i with gone := true } = ((flat1 r).drop i |>.take (j - i)).map (goRC c) := by
   rw [flat1_gone ((r.left j).right i) c]
   ·rw [flat1_right (by rw [len_left hjr]; omega), flat1_left, List.take_drop]
    rw [show i + (j - i) = j by omega]
   ·intro k hk
    rw [hlj] at hk
    have e1 : ((r.left j).right i).fr = r.fr + i := rfl
    have e2 : ((r.left j).right i).op = r.op := rfl
    unfold inCut
    rw [e1, e2]
    simp only [Bool.and_eq_true, decide_eq_true_eq]
    refine ⟨⟨hop, ?_⟩, ?_⟩
    ·push_cast; omega
    ·push_cast; omega
  rw [flat_append, flat_cons, hA, hB, hC]
  have hsplit : flat1 r = (flat1 r).take i ++ ((flat1 r).drop i |>.take (j - i)) ++ (flat1 r).drop j := by
   have e1 := List.take_append_drop i (flat1 r)
   have e2 := List.take_append_drop (j - i) ((flat1 r).drop i)
   rw [List.drop_drop, show i + (j - i) = j by omega] at e2
   rw [List.append_assoc, e2, e1]
  conv => rhs; rw [hsplit]
  rw [List.map_append, List.map_append, List.append_assoc]
  have hget : ∀ q x, (flat1 r)[q]? = some x → x.c = ⟨r.op, ((r.fr + q : Nat) : Int)⟩ ∧ q < r.len := by
   intro q x hq
   have hlt : q < r.text.length := by
    have := (List.getElem?_eq_some_iff.1 hq).1
    rwa [flat1_length] at this
   unfold flat1 at hq
   rw [flatFrom_get _ _ _ _ _ _ hlt] at hq
   cases hq
   exact ⟨rfl, hlt⟩
  congr 1
  ·refine (map_go_id fun x hx => goRC_out ?_).symm
   obtain ⟨q, hq⟩ := List.getElem?_of_mem hx
   rw [List.getElem?_take] at hq
   split at hq
   ·obtain ⟨hc, _⟩ := hget q x hq
    unfold inCut
    rw [hc, Bool.eq_false_iff]
    intro e
    simp only [Bool.and_eq_true, decide_eq_true_eq] at e
    obtain ⟨⟨_, e2⟩, e3⟩ := e
    push_cast at e2 e3
    omega
   ·cases hq
  ·congr 1
   refine (map_go_id fun x hx => goRC_out ?_).symm
   obtain ⟨q, hq⟩ := List.getElem?_of_mem hx
   rw [List.getElem?_drop] at hq
   obtain ⟨hc, hql⟩ := hget (j + q) x hq
   unfold inCut
   rw [hc, Bool.eq_false_iff]
   intro e
   simp only [Bool.and_eq_true, decide_eq_true_eq] at e
   obtain ⟨⟨_, e2⟩, e3⟩ := e
   push_cast at e2 e3
   omega
theorem cutRun_ok {r : Run} (h : RunOk r) (c : Cut) : RowOk (cutRun r c).1 := by
 unfold cutRun
 simp only
 split
 ·exact .cons h .nil
 ·rename_i hh
  simp only [not_or] at hh
  obtain ⟨h1, h2, h3⟩ := hh
  obtain ⟨i, hi⟩ : ∃ i : Nat, (max c.fr r.fr - r.fr).toNat = i := ⟨_, rfl⟩
  obtain ⟨j, hj⟩ : ∃ j : Nat, (min c.to (r.fr + r.len) - r.fr).toNat = j := ⟨_, rfl⟩
  rw [hi, hj]
  have hil : (i : Int) = max c.fr r.fr - r.fr := by omega
  have hjl : (j : Int) = min c.to (r.fr + r.len) - r.fr := by omega
  have hij : i < j := by omega
  have hjr : j ≤ r.len := by omega
  have hL := h.left (n := j) (by omega) hjr
  have hM := hL.right (n := i) (by rw [len_left hjr]; exact hij)
  refine .append ?_ (.cons hM ?_)
  ·split
   ·exact .cons (h.left (by omega) (by omega)) .nil
   ·exact .nil
  ·split
   ·exact .cons (h.right (by omega)) .nil
   ·exact .nil
theorem flatMap_cut_flat (c : Cut) : ∀ l : Row, flat (l.flatMap fun r => (cutRun r c).1) = (flat l).map (goRC c)
 | [] => rfl
 | r :: l => by rw [List.flatMap_cons, flat_append, cutRun_flat, flatMap_cut_flat c l, flat_cons, List.map_append]
theorem cutR_flat (l : Row) (c : Cut) : flat (cutR l c) = (flat l).map (goRC c) := by unfold cutR; rw [mendR_flat, flatMap_cut_flat]
theorem cutR_ok {l : Row} (h : RowOk l) (c : Cut) : RowOk (cutR l c) := by
 unfold cutR
 refine mendR_ok fun r hr => ?_
 obtain ⟨q, hq, hr⟩ := List.mem_flatMap.1 hr
 exact cutRun_ok (h q hq) c r hr
theorem lenR_cut (l : Row) (c : Cut) : lenR (cutR l c) = lenR l := by rw [← flat_length, cutR_flat, List.length_map, flat_length]
theorem lenR_cutMap (l : Row) (c : Cut) : lenR (l.flatMap fun r => (cutRun r c).1) = lenR l := by rw [← flat_length, flatMap_cut_flat, List.length_map, flat_length]
end Dc
namespace Dc
open Off (Bid rightOp rightBlock rightOp_iff)
theorem ok_parts {o : Op} (h : o.ok = true) : rightStamp o.t o.id.R = true ∧ rightOp o.id = true ∧ o.parts = true ∧ o.own = o := by
 unfold Op.ok at h
 simp only [Bool.and_eq_true, decide_eq_true_eq] at h
 exact ⟨h.1.1.1, h.1.1.2, h.1.2, h.2⟩
theorem ok_size {o : Op} (h : o.ok = true) : o.size ≤ 64 := by
 have hp := (ok_parts h).2.2.1
 unfold Op.size
 split
 ·rename_i hk
  unfold Op.parts at hp
  rw [hk] at hp
  simp [rText] at hp
  omega
 ·split <;> omega
theorem ok_id {o : Op} (h : o.ok = true) : o.id ≠ .z := by
 have h1 := rightOp_iff.1 (ok_parts h).2.1
 intro e
 rw [e] at h1
 simp [Bid.z] at h1
/-- the texts are whole behind n ops -/
structure TxOk (x : TX) (n : Nat) : Prop where
 nodes : ∀ seg t, x.texts seg = some t → ∃ rk, NodesOk t.nodes rk (64 * n) n
 row : ∀ seg t, x.texts seg = some t → RowOk t.row ∧ lenR t.row ≤ 64 * n
 made : ∀ i s, x.made i = some s → (∃ t, x.texts s.seg = some t) ∧ 0 ≤ s.size ∧ s.size ≤ 64
 chars : ∀ seg t c, x.texts seg = some t → (t.nodes c ≠ none ↔ c = .z ∨ ∃ s, x.made c.op = some s ∧ s.seg = seg ∧ 0 ≤ c.i ∧ c.i < s.size)
theorem TxOk.new : TxOk .new 0 := by
 refine ⟨?_, ?_, ?_, ?_⟩
 ·intro _ _ h; simp [TX.new] at h
 ·intro _ _ h; simp [TX.new] at h
 ·intro _ _ h; simp [TX.new] at h
 ·intro _ _ _ h; simp [TX.new] at h
theorem TxOk.mono {x : TX} {n m : Nat} (h : TxOk x n) (hm : n ≤ m) : TxOk x m :=
 ⟨fun s t e => (h.nodes s t e).imp fun rk hk => hk.mono (by omega) hm, fun s t e => ⟨(h.row s t e).1, by have := (h.row s t e).2; omega⟩, h.made, h.chars⟩
theorem new_nodes (c : Chr) : YT.new.nodes c ≠ none ↔ c = .z := by
 unfold YT.new
 simp only
 split <;> simp_all
theorem TxOk.open' {x : TX} {n : Nat} (h : TxOk x n) {seg : Bid} (he : openErr x seg = 0) : TxOk (openX x seg) (n + 1) := by
 have hno : x.texts seg = none := by
  unfold openErr at he
  split at he
  ·cases he
  ·split at he
   ·cases he
   ·rename_i hh
    simp only [not_or] at hh
    cases hs : x.texts seg with
    | none => rfl
    | some t => rw [hs] at hh; simp at hh
 have hget : ∀ s t, (openX x seg).texts s = some t → (s = seg ∧ t = .new) ∨ (s ≠ seg ∧ x.texts s = some t) := by
  intro s t e
  unfold openX setT at e
  simp only at e
  split at e
  ·cases e; exact .inl ⟨by assumption, rfl⟩
  ·exact .inr ⟨by assumption, e⟩
 refine ⟨?_, ?_, ?_, ?_⟩
 ·intro s t e
  rcases hget s t e with ⟨rfl, rfl⟩ | ⟨_, e⟩
  ·exact ⟨_, NodesOk.new.mono (Nat.zero_le _) (Nat.zero_le _)⟩
  ·exact (h.nodes s t e).imp fun rk hk => hk.mono (by omega) (by omega)
 ·intro s t e
  rcases hget s t e with ⟨rfl, rfl⟩ | ⟨_, e⟩
  ·exact ⟨RowOk.nil, Nat.zero_le _⟩
  ·exact ⟨(h.row s t e).1, by have := (h.row s t e).2; omega⟩
 ·intro i s e
  obtain ⟨⟨t, ht⟩, h2⟩ := h.made i s e
  refine ⟨?_, h2⟩
  unfold openX setT
  simp only
  split
  ·exact ⟨_, rfl⟩
  ·exact ⟨t, ht⟩
 ·intro s t c e
  rcases hget s t e with ⟨rfl, rfl⟩ | ⟨_, e⟩
  ·rw [new_nodes]
   constructor
   ·exact .inl
   ·rintro (h1 | ⟨q, h1, h2, _⟩)
    ·exact h1
    ·obtain ⟨⟨t, ht⟩, _⟩ := h.made _ q h1
     rw [h2, hno] at ht; cases ht
  ·exact h.chars s t c e
/-- what an insertion leans on -/
theorem insX_parts {x : TX} {n : Nat} (h : TxOk x n) {o : Op} (he : insXErr x o = 0) (hok : o.ok = true) :
  x.texts o.id = none ∧ x.made o.id = none ∧ ∃ t, x.texts o.seg = some t ∧ insErr t o = 0 ∧ t.nodes o.left ≠ none ∧ t.nodes o.right ≠ none ∧ 0 < o.size ∧ ∀ c : Chr, c.op = o.id → t.nodes c = none := by
 unfold insXErr at he
 split at he
 ·cases he
 ·rename_i hh
  simp only [not_or, Bool.not_eq_true, Option.isSome_eq_false_iff, Option.isNone_iff_eq_none] at hh
  refine ⟨hh.1, hh.2, ?_⟩
  cases hs : x.texts o.seg with
  | none => rw [hs] at he; cases he
  | some t =>
   rw [hs] at he
   simp only at he
   refine ⟨t, rfl, he, ?_⟩
   unfold insErr at he
   split at he
   ·cases he
   ·rename_i h1
    split at he
    ·cases he
    ·split at he
     ·cases he
     ·rename_i h3
      simp only [not_or, Bool.not_eq_true, Option.isNone_eq_false_iff] at h3
      simp only [not_or] at h1
      refine ⟨fun e => by rw [e] at h3; simp at h3, fun e => by rw [e] at h3; simp at h3, by omega, fun c hc => ?_⟩
      cases hcn : t.nodes c with
      | none => rfl
      | some m =>
       exfalso
       rcases (h.chars _ t c hs).1 (by rw [hcn]; simp) with e | ⟨s, h4, _⟩
       ·rw [e] at hc
        exact ok_id hok hc.symm
       ·rw [hc, hh.2] at h4; cases h4
theorem TxOk.ins {x : TX} {n : Nat} (h : TxOk x n) {o : Op} (he : insXErr x o = 0) (hok : o.ok = true) : TxOk (insX x o) (n + 1) := by
 obtain ⟨hi, hm, t, ht, he2, hl, hr, hs, hf⟩ := insX_parts h he hok
 have hsz := ok_size hok
 have e0 : insX x o = ⟨setT x.texts o.seg (insY t o), setM x.made o.id ⟨o.seg, o.size, decide (o.kind = 5)⟩⟩ := by unfold insX; rw [ht]
 rw [e0]
 have hget : ∀ s u, setT x.texts o.seg (insY t o) s = some u → (s = o.seg ∧ u = insY t o) ∨ (s ≠ o.seg ∧ x.texts s = some u) := by
  intro s u e
  unfold setT at e
  split at e
  ·cases e; exact .inl ⟨by assumption, rfl⟩
  ·exact .inr ⟨by assumption, e⟩
 refine ⟨?_, ?_, ?_, ?_⟩
 ·intro s u e
  rcases hget s u e with ⟨rfl, rfl⟩ | ⟨_, e⟩
  ·obtain ⟨rk, hk⟩ := h.nodes _ t ht
   obtain ⟨rk', hk'⟩ := insY_nodes_ok hk hl hr hs hf
   exact ⟨rk', hk'.mono (by omega) (by omega)⟩
  ·exact (h.nodes s u e).imp fun rk hk => hk.mono (by omega) (by omega)
 ·intro s u e
  rcases hget s u e with ⟨rfl, rfl⟩ | ⟨_, e⟩
  ·obtain ⟨h1, h2⟩ := h.row _ t ht
   refine ⟨putR_ok h1 _ _, ?_⟩
   have h3 := lenR_put t.row (placeOf t (seatOf t.nodes o)) (itemOf o)
   have h4 : (itemOf o).len ≤ 64 := by
    unfold itemOf
    split
    ·simp [Run.len]
    ·rename_i hk5
     have : o.kind = 3 := by
      unfold Op.size at hs
      split at hs
      ·assumption
      ·exact absurd hs (Nat.lt_irrefl 0)
     unfold Op.size at hsz
     rw [if_pos this] at hsz
     simpa [Run.len] using hsz
   show lenR (putR t.row (placeOf t (seatOf t.nodes o)) (itemOf o)) ≤ 64 * (n + 1)
   omega
  ·exact ⟨(h.row s u e).1, by have := (h.row s u e).2; omega⟩
 ·intro i s e
  simp only [setM] at e
  have hseg : ∃ t', setT x.texts o.seg (insY t o) o.seg = some t' := ⟨_, by unfold setT; rw [if_pos rfl]⟩
  split at e
  ·cases e
   exact ⟨hseg, by simp, by simp only; omega⟩
  ·obtain ⟨⟨t', ht'⟩, h2⟩ := h.made i s e
   refine ⟨?_, h2⟩
   unfold setT
   simp only
   split
   ·exact ⟨_, rfl⟩
   ·exact ⟨t', ht'⟩
 ·intro s u c e
  simp only [setM]
  rcases hget s u e with ⟨rfl, rfl⟩ | ⟨hne, e⟩
  ·rw [insY_there hl hr hs, h.chars _ t c ht]
   by_cases hc : c.op = o.id
   ·rw [if_pos hc, hc, hm]
    simp
   ·rw [if_neg hc]
    simp [hc]
  ·rw [h.chars s u c e]
   by_cases hc : c.op = o.id
   ·rw [if_pos hc, hc, hm]
    simp
    intro e2
    exact absurd e2.symm hne
   ·rw [if_neg hc]
theorem TxOk.del1 {x : TX} {n : Nat} (h : TxOk x n) (c : Cut) : TxOk (del1 x c) n := by
 unfold Dc.del1
 cases hm : x.made c.op with
 | none => exact h
 | some s =>
  simp only
  cases ht : x.texts s.seg with
  | none => exact h
  | some t =>
   simp only
   have hget : ∀ q u, setT x.texts s.seg (cutY t c) q = some u → (q = s.seg ∧ u = cutY t c) ∨ (q ≠ s.seg ∧ x.texts q = some u) := by
    intro q u e
    unfold setT at e
    split at e
    ·cases e; exact .inl ⟨by assumption, rfl⟩
    ·exact .inr ⟨by assumption, e⟩
   refine ⟨?_, ?_, ?_, ?_⟩
   ·intro q u e
    rcases hget q u e with ⟨rfl, rfl⟩ | ⟨_, e⟩
    ·exact h.nodes _ t ht
    ·exact h.nodes q u e
   ·intro q u e
    rcases hget q u e with ⟨rfl, rfl⟩ | ⟨_, e⟩
    ·exact ⟨cutR_ok (h.row _ t ht).1 c, by show lenR (cutR t.row c) ≤ _; rw [lenR_cut]; exact (h.row _ t ht).2⟩
    ·exact h.row q u e
   ·intro i r e
    obtain ⟨⟨t', ht'⟩, h2⟩ := h.made i r e
    refine ⟨?_, h2⟩
    unfold setT
    simp only
    split
    ·exact ⟨_, rfl⟩
    ·exact ⟨t', ht'⟩
   ·intro q u d e
    rcases hget q u e with ⟨rfl, rfl⟩ | ⟨_, e⟩
    ·exact h.chars _ t d ht
    ·exact h.chars q u d e
theorem TxOk.delX {n : Nat} : ∀ {l : List Cut} {x : TX}, TxOk x n → TxOk (delX x l) n
 | [], _, h => h
 | c :: l, _, h => TxOk.delX (l := l) (h.del1 c)
theorem TxOk.write {x : TX} {n : Nat} (h : TxOk x n) {o : Op} (hok : o.ok = true) (he : writeErr x o = 0) : TxOk (writeX x o) (n + 1) := by
 unfold writeErr at he
 unfold writeX
 split
 ·rename_i hk
  rw [if_pos hk] at he
  exact h.open' he
 ·rename_i hk
  rw [if_neg hk] at he
  split
  ·rename_i hk2
   rw [if_pos hk2] at he
   unfold doXErr at he
   unfold doX
   rw [if_neg (by simp [hok])] at he
   split
   ·rename_i hs
    rw [if_pos hs] at he
    exact h.ins he hok
   ·exact (h.mono (Nat.le_succ _)).delX
  ·exact h.mono (Nat.le_succ _)
/-! the document -/
structure DocOk (d : Doc) : Prop where
 tx : TxOk d.tx d.ops.length
 sorted : d.ms.Pairwise fun a b => orderMove a b < 0
 right : ∀ m ∈ d.ms, m.right = true
 ids : ∀ m ∈ d.ms, d.kinds m.id ≠ none
 len : d.ms.length ≤ d.ops.length
 ops : ∀ o ∈ d.ops, o.ok = true
 kinds : ∀ i, d.kinds i ≠ none ↔ ∃ o ∈ d.ops, o.id = i
theorem DocOk.new : DocOk .new := by
 refine ⟨TxOk.new, List.Pairwise.nil, ?_, ?_, Nat.zero_le _, ?_, ?_⟩ <;> simp [Doc.new]
theorem err_parts {d : Doc} {o : Op} (h : d.err o = 0) : o.ok = true ∧ d.kinds o.id = none ∧ d.known o = true ∧ writeErr d.tx o = 0 := by
 unfold Doc.err at h
 split at h
 ·cases h
 ·rename_i h1
  split at h
  ·cases h
  ·rename_i h2
   split at h
   ·cases h
   ·rename_i h3
    refine ⟨by simpa using h1, ?_, by simpa using h3, h⟩
    unfold Doc.has at h2
    cases hk : d.kinds o.id with
    | none => rfl
    | some _ => rw [hk] at h2; simp at h2
theorem move_right {o : Op} {b : Bid} (hok : o.ok = true) (hp : rPlace o = true) (hb : rightOp b = true) : (moveOf o b).right = true := by
 unfold Move.right moveOf
 unfold rPlace at hp
 simp only [Bool.and_eq_true] at hp ⊢
 obtain ⟨h1, h2, _⟩ := ok_parts hok
 exact ⟨⟨⟨⟨h1, h2⟩, hb⟩, hp.1⟩, hp.2⟩
theorem moveAt_le (ms : List Move) (m : Move) : moveAt ms m ≤ ms.length := takeWhile_le _ _
theorem moveAt_split {ms : List Move} (hs : ms.Pairwise fun a b => orderMove a b < 0) (m : Move) (j : Nat) (hj : j < ms.length) : decide (orderMove ms[j] m < 0) = decide (j < moveAt ms m) :=
 split_at (fun x : Move => decide (orderMove x m < 0)) ms (fun i k hi hk hik hh => by
  rcases Nat.eq_or_lt_of_le hik with rfl | hlt
  ·exact hh
  ·simp only [decide_eq_true_eq] at hh ⊢
   exact orderMove_trans (List.pairwise_iff_getElem.1 hs i k hi hk hlt) hh) j hj
theorem addMove_sorted {ms : List Move} (hs : ms.Pairwise fun a b => orderMove a b < 0) {m : Move} (hn : ∀ x ∈ ms, x.id ≠ m.id) : (addMove ms m).Pairwise fun a b => orderMove a b < 0 := by
 unfold addMove
 refine sorted_insert (c := orderMove) hs m (moveAt_le _ _) (moveAt_split hs m) fun y hy hny => ?_
 have h1 : ¬ orderMove y m = 0 := fun e => hn y hy (orderMove_zero.1 e).2.2
 exact orderMove_swap.2 (by omega)
theorem mem_addMove {ms : List Move} {m x : Move} : x ∈ addMove ms m ↔ x = m ∨ x ∈ ms := mem_insertAt
theorem length_addMove (ms : List Move) (m : Move) : (addMove ms m).length = ms.length + 1 := length_insertAt (moveAt_le _ _)
/-- the move that an op makes -/
def Op.mv (o : Op) : Option Move := if o.kind = 1 ∨ o.kind = 5 then some (moveOf o o.id) else if o.kind = 2 then some (moveOf o o.block) else none
theorem apply_ms (d : Doc) (o : Op) : (d.apply o).ms = match o.mv with | some m => addMove d.ms m | none => d.ms := by
 unfold Doc.apply Op.mv
 simp only
 split
 ·rfl
 ·split <;> rfl
theorem mv_id {o : Op} {m : Move} (h : o.mv = some m) : m.id = o.id := by
 unfold Op.mv at h
 split at h
 ·cases h; rfl
 ·split at h
  ·cases h; rfl
  ·cases h
theorem mv_right {o : Op} {m : Move} (hok : o.ok = true) (h : o.mv = some m) : m.right = true := by
 obtain ⟨_, h2, h3, _⟩ := ok_parts hok
 unfold Op.parts at h3
 unfold Op.mv at h
 split at h
 ·rename_i hk
  cases h
  refine move_right hok ?_ h2
  rcases hk with hk | hk
  ·rw [hk] at h3; simpa using h3
  ·rw [hk] at h3; simp at h3; exact h3.2
 ·split at h
  ·rename_i hk
   cases h
   rw [hk] at h3
   simp at h3
   exact move_right hok h3.2 h3.1
  ·cases h
theorem DocOk.apply {d : Doc} (h : DocOk d) {o : Op} (he : d.err o = 0) : DocOk (d.apply o) := by
 obtain ⟨hok, hk, _, hw⟩ := err_parts he
 have hkn : ∀ i, (d.apply o).kinds i ≠ none ↔ i = o.id ∨ d.kinds i ≠ none := by
  intro i
  unfold Doc.apply setK
  simp only
  by_cases hi : i = o.id
  ·rw [if_pos hi]; simp [hi]
  ·rw [if_neg hi]; simp [hi]
 have hms := apply_ms d o
 have hnew : ∀ m, o.mv = some m → ∀ x ∈ d.ms, x.id ≠ m.id := fun m hm x hx e => by
  have := h.ids x hx
  rw [e, mv_id hm, hk] at this
  exact this rfl
 refine ⟨?_, ?_, ?_, ?_, ?_, ?_, ?_⟩
 ·have := h.tx.write hok hw
  show TxOk (writeX d.tx o) (d.ops ++ [o]).length
  simpa using this
 ·rw [hms]
  cases hm : o.mv with
  | none => exact h.sorted
  | some m => exact addMove_sorted h.sorted (hnew m hm)
 ·rw [hms]
  cases hm : o.mv with
  | none => exact h.right
  | some m =>
   intro x hx
   rcases mem_addMove.1 hx with rfl | hx
   ·exact mv_right hok hm
   ·exact h.right x hx
 ·rw [hms]
  intro x hx
  rw [hkn]
  cases hm : o.mv with
  | none => rw [hm] at hx; exact .inr (h.ids x hx)
  | some m =>
   rw [hm] at hx
   rcases mem_addMove.1 hx with rfl | hx
   ·exact .inl (mv_id hm)
   ·exact .inr (h.ids x hx)
 ·rw [hms]
  have : (d.apply o).ops.length = d.ops.length + 1 := by unfold Doc.apply; simp
  rw [this]
  have hl := h.len
  cases hm : o.mv with
  | none => simp only; omega
  | some m => simp only; rw [length_addMove]; omega
 ·intro x hx
  have hx' : x ∈ d.ops ++ [o] := hx
  rcases List.mem_append.1 hx' with hx | hx
  ·exact h.ops x hx
  ·rw [List.mem_singleton.1 hx]; exact hok
 ·intro i
  rw [hkn, h.kinds]
  show _ ↔ ∃ x ∈ d.ops ++ [o], x.id = i
  constructor
  ·rintro (rfl | ⟨x, hx, rfl⟩)
   ·exact ⟨o, by simp, rfl⟩
   ·exact ⟨x, by simp [hx], rfl⟩
  ·rintro ⟨x, hx, rfl⟩
   rcases List.mem_append.1 hx with hx | hx
   ·exact .inr ⟨x, hx, rfl⟩
   ·rw [List.mem_singleton.1 hx]; exact .inl rfl
theorem DocOk.act {d : Doc} (h : DocOk d) (o : Op) : DocOk (d.act o) := by
 unfold Doc.act
 split
 ·exact h.apply (by assumption)
 ·exact h
end Dc
