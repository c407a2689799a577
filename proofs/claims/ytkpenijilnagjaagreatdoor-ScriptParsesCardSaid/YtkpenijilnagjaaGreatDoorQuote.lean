/- A text between quotes, as it is shown. -/
import Derived.Test.YtkpenijilnagjaaGreatDoorText
import Derived.Lib.ConvBytes
import Derived.Deep.RegionLaw
namespace Go.Proofs.YtkpenijilnagjaaGreatDoor
open Go.RowKit

theorem u8_lt {c : UInt8} {n : Nat} (h : c.toNat < n) : (c.toNat : Int) < n := by omega

theorem one_byte_cell (w : World) (x : Value) : ∀ j u, [x][j]? = some u → (w.alloc (.cells #[x] 5)).cell? ((⟨w.heap.size, 0, none⟩ : Addr).add j) = some u := by
  intro j u hj
  match j, hj with
  | 0, hj =>
    simp at hj; subst hj
    show (World.alloc _ _).cell? ⟨w.heap.size, 0, none⟩ = _
    rw [World.cell?_alloc_at _ _ _ _ rfl]; rfl

theorem cells3 (w : World) (x y z : Value) : ∀ j u, [x, y, z][j]? = some u → (w.alloc (.cells #[x, y, z] 5)).cell? ((⟨w.heap.size, 0, none⟩ : Addr).add j) = some u := by
  intro j u hj
  have hadd : (⟨w.heap.size, 0, none⟩ : Addr).add j = ⟨w.heap.size, j, none⟩ := by unfold Addr.add; split <;> simp_all
  rw [hadd, World.cell?_alloc_at _ _ _ _ rfl]
  simpa using hj

theorem flat_take (s : List UInt8) (k : Nat) (h : k < s.length) : (s.take (k + 1)).flatMap Off.quoteByte = (s.take k).flatMap Off.quoteByte ++ Off.quoteByte s[k] := by
  rw [List.take_succ_eq_append_getElem h, List.flatMap_append]; simp

theorem quote_len (s : List UInt8) : (s.flatMap Off.quoteByte).length ≤ 3 * s.length := by
  induction s with
  | nil => simp
  | cons c l ih =>
    have : (Off.quoteByte c).length ≤ 3 := by unfold Off.quoteByte; split <;> simp
    rw [List.flatMap_cons, List.length_append, List.length_cons]; omega

theorem hex_at (v : UInt8) (h : v.toNat < (ByteArray.mk #[48, 49, 50, 51, 52, 53, 54, 55, 56, 57, 97, 98, 99, 100, 101, 102]).size) :
    (ByteArray.mk #[48, 49, 50, 51, 52, 53, 54, 55, 56, 57, 97, 98, 99, 100, 101, 102])[v.toNat]'h = Off.hexD v := by
  have hl : v.toNat < 16 := h
  show (#[48, 49, 50, 51, 52, 53, 54, 55, 56, 57, 97, 98, 99, 100, 101, 102] : Array UInt8)[v.toNat] = _
  have key : ∀ i : Fin 16, (#[48, 49, 50, 51, 52, 53, 54, 55, 56, 57, 97, 98, 99, 100, 101, 102] : Array UInt8)[i.val] = Off.hexD (UInt8.ofNat i.val) := by decide +kernel
  have := key ⟨v.toNat, hl⟩
  simpa using this
theorem shr_nat (c : UInt8) : ((c.toNat : Int) / 16) = ((c >>> 4).toNat : Int) := by
  have key : ∀ c : UInt8, c.toNat / 16 = (c >>> 4).toNat := Off.fin_byte (P := fun c => c.toNat / 16 = (c >>> 4).toNat) (by decide +kernel)
  rw [← key]; omega
theorem and_nat (c : UInt8) : bits BinOp.and IntKind.u8 (c.toNat : Int) 15 = ((c &&& 15).toNat : Int) :=
  Off.fin_byte (P := fun c => bits BinOp.and IntKind.u8 (c.toNat : Int) 15 = ((c &&& 15).toNat : Int)) (by decide +kernel) c
theorem shr_lt (c : UInt8) : ((c >>> 4).toNat : Int) < 16 := by rw [← shr_nat]; have := c.toNat_lt; omega
theorem and_lt (c : UInt8) : ((c &&& 15).toNat : Int) < 16 := by
  have key : ∀ c : UInt8, (c &&& 15).toNat < 16 := Off.fin_byte (P := fun c => (c &&& 15).toNat < 16) (by decide +kernel)
  have := key c; omega

def hiN (c : UInt8) : Nat := (c >>> 4).toNat
def loN (c : UInt8) : Nat := (c &&& 15).toNat

/-- append onto the call's own row, as one step of a region that draws -/
theorem step_append_own {P : Program} {ops : Array Oper} {w : World} {E : Prop} {o : Oper} {a : Act} {K : Act → World → Prop} {Q : Exit → Act → World → Prop} (hgd : o.guard = none) (s x : Operand) (t : TypeId)
    (ho : o.op = .call { callee := .builtin .append, args := #[s, x], argTypes := #[t, t] })
    (base : Nat) (e : TypeId) (i : TypeInfo) (z : Value) (size bytes : Nat) (ht : P.underlying t = some (.slice e)) (hi : P.info? e = some i) (hz : i.zero = some z)
    (hsize : i.size = size) (hby : i.bytes = bytes) (hzs : z.cells.size = size) (hsz : 0 < size)
    (v : Value) (n : Nat) (xs : List Value) (hs : a.eval s = v) (hown : w.ownsRow base e size v n xs)
    (ad : Addr) (m c : Nat) (news : List Value) (hx : a.eval x = .slice (some ad) m c) (hl : news.length = m * size) (hnews : ∀ j u, news[j]? = some u → w.cell? (ad.add j) = some u) (h1 : ∀ u ∈ news, u.oneCell' = true)
    (h63 : n + m ≤ maxLen) (hbytes : (n + m) * bytes ≤ 140737488355328) (hbase : base ≤ w.heap.size)
    (h : ∀ v' w', w'.ownsRow base e size v' (n + m) (xs ++ news) → w.grownBy w' v.ownBlock → K (a.put o.dst v') w') :
    if Region.wanted o (yielded ops a.tmps) = true then Oper.wp P o a w K Q else E := by
  have hw : Region.wanted o (yielded ops a.tmps) = true := by simp [Region.wanted, hgd]
  rw [if_pos hw]
  exact wp_append_own w s x t ho base e i z size bytes ht hi hz hsize hby hzs hsz v n xs hs hown ad m c news hx hl hnews h1 h63 hbytes hbase fun v' w' h2 h3 _ => h v' w' h2 h3

set_option maxRecDepth 100000 in
set_option maxHeartbeats 2000000 in
theorem quoted_any (s : List UInt8) (w : World) (hs : s.length ≤ 1000000) :
    Calls Tryz.prog 120 #[.string ⟨s.toArray⟩] w fun e w' => e = .returned (.string ⟨(Off.quoted s).toArray⟩) ∧ Keeps No w w' := by
  obtain ⟨i0, hi, hz0, hz1, hz2⟩ := info_parts infoByte
  have hcv : ∀ W : World, (convert 9 89 (.string ⟨s.toArray⟩)).run Tryz.prog W = .ok (.slice (some ⟨W.heap.size, 0, none⟩) s.length (grownCap W s.length 0 5)) (Lib.bytesWorld W 5 ⟨s.toArray⟩) := by
    intro W
    have := Lib.run_convert_string_bytes (P := Tryz.prog) W 9 89 5 ⟨s.toArray⟩ Tryz.underlying9 Tryz.underlying89 Tryz.underlying5
    rwa [size_mk] at this
  have hbw := Lib.bytesWorld_at_new (w.alloc (.cells #[.int .u8 34] 5)) 5 ⟨s.toArray⟩
  have hsz : (w.alloc (.cells #[.int .u8 34] 5)).heap.size = w.heap.size + 1 := by simp
  rw [hsz] at hbw
  have hcell : ∀ j, (h : j < s.length) → (Lib.bytesCells (w.alloc (.cells #[.int .u8 34] 5)) 5 ⟨s.toArray⟩)[j]? = some (.int .u8 s[j].toNat) := by
    intro j h
    have := Lib.bytesWorld_cell (w.alloc (.cells #[.int .u8 34] 5)) 5 ⟨s.toArray⟩ j (by rw [size_mk]; exact h)
    rw [hsz, Lib.cell_of_heap hbw] at this
    rw [this]
    simp [List.getD, h]
  have kw : Keeps No w (Lib.bytesWorld (w.alloc (.cells #[.int .u8 34] 5)) 5 ⟨s.toArray⟩) := ((Keeps.refl _ _).alloc _).trans (keeps_bytes _ _ _)
  have hown : (Lib.bytesWorld (w.alloc (.cells #[.int .u8 34] 5)) 5 ⟨s.toArray⟩).ownsRow w.heap.size 5 1 (.slice (some ⟨w.heap.size, 0, none⟩) 1 1) 1 (Lib.byteCells [34]) := by
    refine ⟨rfl, .inr ⟨w.heap.size, 1, #[.int .u8 34], rfl, Nat.le_refl _, ?_, by omega, by decide, rfl, rfl⟩⟩
    rw [Lib.bytesWorld_at_old _ _ _ _ (by rw [hsz]; omega)]
    exact heap_alloc_new w _
  generalize (Lib.bytesCells (w.alloc (.cells #[.int .u8 34] 5)) 5 ⟨s.toArray⟩) = C at hbw hcell
  go_enter Tryz.func120, Tryz.ntmps120
  go_wp2
  generalize grownCap (w.alloc (.cells #[.int .u8 34] 5)) s.length 0 5 = cp
  generalize hw1 : Lib.bytesWorld (w.alloc (.cells #[.int .u8 34] 5)) 5 ⟨s.toArray⟩ = w1 at kw hown hbw ⊢
  clear hcv hw1 hsz
  go_loopw [3, 10] (fun v i wr => ∃ k : Nat, k ≤ s.length ∧ i = .int .i64 k ∧ wr.ownsRow w.heap.size 5 1 v (34 :: (s.take k).flatMap Off.quoteByte).length (Lib.byteCells (34 :: (s.take k).flatMap Off.quoteByte)) ∧
      wr.heap[w.heap.size + 1]? = some (.cells C 5 (C.size, C.size + 1)) ∧ Keeps No w wr) (fun _ i _ => s.length - (intOf i).toNat)
  case atStart => exact ⟨0, Nat.zero_le _, rfl, hown, hbw, kw⟩
  case round =>
    obtain ⟨k, hk, rfl, hownr, hbr, kr⟩ := hrel
    by_cases hlt : k < s.length
    · have hc := (Lib.cell_of_heap hbr k).trans (hcell k hlt)
      have hft := Lib.hid (flat_take s k hlt)
      have hql := quote_len (s.take k)
      have hlen : (34 :: (s.take k).flatMap Off.quoteByte).length ≤ 3000001 := by
        simp only [List.length_cons]; have := List.length_take_le k s; omega
      have hnb : ∀ j, Value.ownBlock u3 = some j → w.heap.size ≤ j ∧ j ≠ w.heap.size + 1 := by
        intro j hj
        refine ⟨(hownr.lt j hj).1, ?_⟩
        rintro rfl
        rcases hownr.2 with ⟨h, _⟩ | ⟨g, cap, cur, h, _, hgg, _⟩
        · rw [h] at hj; simp [Value.ownBlock] at hj
        · rw [h] at hj; simp [Value.ownBlock] at hj
          rw [hj, hbr] at hgg
          simp at hgg
      clear hcell
      generalize s[k] = c at hc hft
      have hap : ∀ news : List UInt8, Off.quoteByte c = news → ∀ v' w2, World.ownsRow w2 w.heap.size 5 1 v' ((34 :: (s.take k).flatMap Off.quoteByte).length + news.length) (Lib.byteCells (34 :: (s.take k).flatMap Off.quoteByte) ++ Lib.byteCells news) →
          w2.ownsRow w.heap.size 5 1 v' (34 :: (s.take (k + 1)).flatMap Off.quoteByte).length (Lib.byteCells (34 :: (s.take (k + 1)).flatMap Off.quoteByte)) := by
        intro news hn v' w2 h
        rw [hft.out, hn]
        simpa [Lib.byteCells, Nat.add_assoc, Nat.add_comm, Nat.add_left_comm] using h
      generalize hacc : (34 :: (s.take k).flatMap Off.quoteByte) = acc at hownr hlen hap
      clear hacc hft
      by_cases hp : Off.plainByte c = true
      · have hq : Off.quoteByte c = [c] := if_pos hp
        unfold Off.plainByte at hp
        simp only [Bool.and_eq_true, decide_eq_true_eq] at hp
        obtain ⟨⟨⟨p1, p2⟩, p3⟩, p4⟩ := hp
        have q1 : (32 : Int) ≤ c.toNat := by have := UInt8.le_iff_toNat_le.1 p1; have e : (32 : UInt8).toNat = 32 := rfl; omega
        have q2 : (c.toNat : Int) ≤ 126 := by have := UInt8.le_iff_toNat_le.1 p2; have e : (126 : UInt8).toNat = 126 := rfl; omega
        have q3 : ((c.toNat : Int) == 34) = false := by rw [beq_eq_false_iff_ne]; intro e; exact p3 (UInt8.toNat_inj.1 (by rw [show (34 : UInt8).toNat = 34 from rfl]; omega))
        have q4 : ((c.toNat : Int) == 92) = false := by rw [beq_eq_false_iff_ne]; intro e; exact p4 (UInt8.toNat_inj.1 (by rw [show (92 : UInt8).toNat = 92 from rfl]; omega))
        clear p1 p2 p3 p4
        have hq' := Lib.hid hq
        clear hq
        go_wp2_with (at_builtin; refine wpList_append_own _ rfl _ _ 89 rfl w.heap.size 5 i0 (.int .u8 0) 1 1 Tryz.underlying89 hi hz0 hz1 hz2 rfl (by decide) _ _ _ rfl (hownr.alloc _) _ 1 1 [.int .u8 c.toNat] rfl rfl (one_byte_cell _ _) ?c2 ?c3 ?c4 ?c5 ?_)
        case c2 => intro u hu; simp at hu; subst hu; rfl
        case c3 => unfold maxLen; omega
        case c4 => omega
        case c5 => have := kr.size; simp; omega
        intro v' w2 hown' hg _
        have hb2 : w2.heap[w.heap.size + 1]? = _ := (hg.block _ (by have := heap_lt hbr; simp; omega) (fun e => (hnb _ e.symm).2 rfl)).trans (heap_alloc_keep hbr _)
        have kg : Keeps No w w2 := (kr.alloc _).grown hg fun j hj => (hnb j hj).1
        have ho := hap [c] hq'.out v' w2 (by simpa [Lib.byteCells] using hown')
        go_wp2
        go_roundw
        case rel => exact ⟨k + 1, by omega, by go_num, ho, hb2, kg⟩
        case measure => simp [intOf]; omega
      · have hq : Off.quoteByte c = [92, Off.hexD (c >>> 4), Off.hexD (c &&& 15)] := if_neg hp
        have hq' := Lib.hid hq
        clear hq
        have hcase : ((c.toNat : Int) < 32) ∨ ((32 : Int) ≤ c.toNat ∧ (126 : Int) < c.toNat) ∨ ((32 : Int) ≤ c.toNat ∧ (c.toNat : Int) ≤ 126 ∧ ((c.toNat : Int) == 34) = true) ∨
            ((32 : Int) ≤ c.toNat ∧ (c.toNat : Int) ≤ 126 ∧ ((c.toNat : Int) == 34) = false ∧ ((c.toNat : Int) == 92) = true) := by
          unfold Off.plainByte at hp
          simp only [Bool.and_eq_true, decide_eq_true_eq] at hp
          by_cases e1 : (c.toNat : Int) < 32
          · exact .inl e1
          by_cases e2 : (126 : Int) < c.toNat
          · exact .inr (.inl ⟨by omega, e2⟩)
          by_cases e3 : c = 34
          · exact .inr (.inr (.inl ⟨by omega, by omega, by rw [e3]; rfl⟩))
          by_cases e4 : c = 92
          · exact .inr (.inr (.inr ⟨by omega, by omega, by rw [e4]; rfl, by rw [e4]; rfl⟩))
          exact absurd ⟨⟨⟨UInt8.le_iff_toNat_le.2 (by show 32 ≤ c.toNat; omega), UInt8.le_iff_toNat_le.2 (by show c.toNat ≤ 126; omega)⟩, e3⟩, e4⟩ hp
        clear hp
        have e1 : ((c.toNat : Int) / 16) = (hiN c : Int) := shr_nat c
        have e2 : bits BinOp.and IntKind.u8 (c.toNat : Int) 15 = (loN c : Int) := and_nat c
        have l1 : (hiN c : Int) < 16 := shr_lt c
        have l2 : (loN c : Int) < 16 := and_lt c
        have l3 : hiN c < 16 := by omega
        have l4 : loN c < 16 := by omega
        have g1 : ∀ h, (ByteArray.mk #[48, 49, 50, 51, 52, 53, 54, 55, 56, 57, 97, 98, 99, 100, 101, 102])[hiN c]'h = Off.hexD (c >>> 4) := hex_at (c >>> 4)
        have g2 : ∀ h, (ByteArray.mk #[48, 49, 50, 51, 52, 53, 54, 55, 56, 57, 97, 98, 99, 100, 101, 102])[loN c]'h = Off.hexD (c &&& 15) := hex_at (c &&& 15)
        rcases hcase with h1 | ⟨h1, h2⟩ | ⟨h1, h2, h3⟩ | ⟨h1, h2, h3, h4⟩
        all_goals
          go_wp2
          go_region_law ((refine step_append_own rfl _ _ 89 rfl w.heap.size 5 i0 (.int .u8 0) 1 1 Tryz.underlying89 hi hz0 hz1 hz2 rfl (by decide) _ _ _ rfl (hownr.alloc _) _ 3 3 [.int .u8 92, .int .u8 (Off.hexD (c >>> 4)).toNat, .int .u8 (Off.hexD (c &&& 15)).toNat] rfl rfl (cells3 _ _ _ _) (by intro u hu; simp at hu; rcases hu with rfl | rfl | rfl <;> rfl) (by unfold maxLen; omega) (by omega) (by have := kr.size; simp; omega) ?_; intro v' w2 hown' hg))
          all_goals
            have hb2 : w2.heap[w.heap.size + 1]? = _ := (hg.block _ (by have := heap_lt hbr; simp; omega) (fun e => (hnb _ e.symm).2 rfl)).trans (heap_alloc_keep hbr _)
            have kg : Keeps No w w2 := ((kr.alloc _).drew).grown hg fun j hj => (hnb j hj).1
            have ho := hap _ hq'.out v' w2 (by simpa [Lib.byteCells] using hown')
            go_wp2
            go_roundw
            case rel => exact ⟨k + 1, by omega, by go_num, ho, hb2, kg⟩
            case measure => simp [intOf]; omega
    · obtain rfl : k = s.length := by omega
      have ht : s.take s.length = s := List.take_length
      rw [ht] at hownr
      have hql := quote_len s
      have hlen : (34 :: s.flatMap Off.quoteByte).length ≤ 3000001 := by simp only [List.length_cons]; omega
      clear ht hcell
      have hQ : Off.quoted s = (34 :: s.flatMap Off.quoteByte) ++ [34] := rfl
      have hQ' := Lib.hid hQ
      clear hQ
      generalize (34 :: s.flatMap Off.quoteByte) = acc at hownr hlen hQ'
      go_wp2_with (at_builtin; refine wpList_append_own _ rfl _ _ 89 rfl w.heap.size 5 i0 (.int .u8 0) 1 1 Tryz.underlying89 hi hz0 hz1 hz2 rfl (by decide) _ _ _ rfl (hownr.alloc _) _ 1 1 [.int .u8 34] rfl rfl (one_byte_cell _ _) ?c2 ?c3 ?c4 ?c5 ?_)
      case c2 => intro u hu; simp at hu; subst hu; rfl
      case c3 => unfold maxLen; omega
      case c4 => omega
      case c5 => have := kr.size; simp; omega
      intro v' w2 hown' hg _
      have kg : Keeps No w w2 := (kr.alloc _).grown hg fun j hj => (hownr.lt j hj).1
      have ho : w2.ownsRow w.heap.size 5 1 v' (acc ++ [34]).length (Lib.byteCells (acc ++ [34])) := by
        simpa [Lib.byteCells] using hown'
      have hconv := conv_own ho
      go_wp2
      go_ret
      exact ⟨by rw [hQ'.out]; rfl, kg⟩

end Go.Proofs.YtkpenijilnagjaaGreatDoor
