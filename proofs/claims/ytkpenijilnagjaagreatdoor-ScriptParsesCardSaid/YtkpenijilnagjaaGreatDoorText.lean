/- The scanner's text: a text between quotes, byte by byte. -/
import Derived.Test.YtkpenijilnagjaaGreatDoorScan2
import Derived.Lib.UnsafeStr
namespace Go.Proofs.YtkpenijilnagjaaGreatDoor
open Go.RowKit

theorem infoByte : (Tryz.prog.info? 5).map (fun i => (i.zero, i.size, i.bytes)) = some (some (.int .u8 0), 1, 1) := by kernel_rfl

theorem conv_own {w : World} {B : Nat} {v : Value} {l : List UInt8} (h : w.ownsRow B 5 1 v l.length (Lib.byteCells l)) :
    (convert 89 9 v).run Tryz.prog w = .ok (.string ⟨l.toArray⟩) w := by
  rcases h.2 with ⟨rfl, hl⟩ | ⟨g, cap, cur, rfl, _, hg, hn, _, hs, ht⟩
  · have : l = [] := List.eq_nil_of_length_eq_zero hl
    subst this
    exact run_convert_bytes_nil w _ _ Tryz.underlying89 Tryz.underlying5 0 0 _ Tryz.underlying9
  · have hc : ∀ j u, (Lib.byteCells l)[j]? = some u → w.cell? ⟨g, j, none⟩ = some u := by
      intro j u hj
      have := h.cells (g := g) rfl j u hj
      have hadd : (⟨g, 0, none⟩ : Addr).add j = ⟨g, j, none⟩ := by unfold Addr.add; split <;> simp_all
      rwa [hadd] at this
    rw [run_convert_bytes_arg w _ _ Tryz.underlying89 Tryz.underlying5 g 0 l.length cap (l.map fun b => (b.toNat : Int)) (by simp) ?_ _ Tryz.underlying9]
    · congr 2
      unfold strOfNums
      congr 1
      apply Array.ext'
      simp only [List.map_map]
      rw [show ((fun n : Int => UInt8.ofNat n.toNat) ∘ fun b : UInt8 => (b.toNat : Int)) = id from by funext b; simp]
      simp
    · intro i hi
      refine hc _ _ ?_
      simp [Lib.byteCells, hi]

def scanLen (b : Nat) (w : World) : Nat := match w.cell? ⟨b, 0, none⟩ with | some (.string s) => s.size | _ => 0
theorem Scan.len {b : Nat} {s : List UInt8} {w : World} (h : Scan b s w) : scanLen b w = s.length := by
  unfold scanLen; rw [h.cell]; exact size_mk s

/-- how text ends -/
def TextPost (b : Nat) (w : World) (res : Option (List UInt8 × List UInt8)) (e : Ending) (w' : World) : Prop :=
  Keeps (At1 b) w w' ∧ match res with
    | some (t, r) => e = .returned (.string ⟨t.toArray⟩) ∧ Scan b r w'
    | none => e = .panicked wrongChain

theorem TextPost.bad {b : Nat} {s : List UInt8} {w w' : World} (h : Off.text s = none) (k : Keeps (At1 b) w w') : TextPost b w (Off.text s) (.panicked wrongChain) w' := by
  unfold TextPost; rw [h]; exact ⟨k, rfl⟩
theorem TextPost.good {b : Nat} {s t r : List UInt8} {w w' : World} (h : Off.text s = some (t, r)) (k : Keeps (At1 b) w w') (hb : Scan b r w') :
    TextPost b w (Off.text s) (.returned (.string ⟨t.toArray⟩)) w' := by
  unfold TextPost; rw [h]; exact ⟨k, rfl, hb⟩

theorem byteCells_snoc (l : List UInt8) (c : UInt8) : Lib.byteCells l ++ [Value.int .u8 c.toNat] = Lib.byteCells (l ++ [c]) := by simp [Lib.byteCells]

theorem or_hex {h l : UInt8} (hh : h.toNat < 16) (hl : l.toNat < 16) : bits BinOp.or IntKind.u8 ((h.toNat : Int) * 16) (l.toNat : Int) = ((h <<< 4 ||| l).toNat : Int) := by
  have key : ∀ i j : Fin 16, bits BinOp.or IntKind.u8 (((i.val : Nat) : Int) * 16) ((j.val : Nat) : Int) = ((UInt8.ofNat i.val <<< 4 ||| UInt8.ofNat j.val).toNat : Int) := by decide +kernel
  have := key ⟨h.toNat, hh⟩ ⟨l.toNat, hl⟩
  simpa using this

set_option maxRecDepth 100000 in
set_option maxHeartbeats 2000000 in
theorem text_any (b : Nat) (s : List UInt8) (w : World) (hb : Scan b s w) (hs : s.length < 4294967281) :
    Calls Tryz.prog 158 #[.pointer (some ⟨b, 0, none⟩)] w (TextPost b w (Off.text s)) := by
  obtain ⟨i0, hi, hz0, hz1, hz2⟩ := info_parts infoByte
  have c0 := hb.cell
  have f0 := hb.free 0
  have hlt := hb.lt
  by_cases hq : ∃ r, s = 34 :: r
  · obtain ⟨r0, rfl⟩ := hq
    have hpre : Lib.hasPrefix (34 :: r0) [34] = true := by simp [Lib.hasPrefix]
    have cp := lib_hasPrefix (34 :: r0) [34] w
    rw [hpre] at cp
    clear hpre
    go_enter Tryz.func158, Tryz.ntmps158
    go_wp2_with (first
      | (go_at_call 186; refine cp.mono ?_; rintro e w1 ⟨rfl, rfl⟩)
      | (go_at_call 109; refine (need_ok _).mono ?_; rintro e w4 ⟨rfl, rfl⟩))
    rw [tail_extract]
    have hb1 := hb.set r0
    have k1 : Keeps (At1 b) w (w.setCell ⟨b, 0, none⟩ (.string ⟨r0.toArray⟩)) := (Keeps.refl _ _).set1 _
    have hsz : w.heap.size ≤ (w.setCell ⟨b, 0, none⟩ (.string ⟨r0.toArray⟩)).heap.size := k1.size
    generalize w.setCell ⟨b, 0, none⟩ (.string ⟨r0.toArray⟩) = w1 at hb1 k1 hsz
    have hs0 : r0.length + 1 < 4294967281 := by simpa using hs
    clear cp c0 f0 hb hs
    have hT : Hid (Off.text (34 :: r0) = Off.textLoop [] r0) := rfl
    go_loopw [3] (fun v wr => ∃ acc r : List UInt8, wr.ownsRow w.heap.size 5 1 v acc.length (Lib.byteCells acc) ∧ Scan b r wr ∧ Keeps (At1 b) w wr ∧
        Hid (Off.text (34 :: r0) = Off.textLoop acc r) ∧ acc.length + r.length ≤ r0.length) (fun _ wr => scanLen b wr)
    case atStart => exact ⟨[], r0, World.ownsRow_nil _ _ _ _, hb1, k1, hT, by simp⟩
    case round =>
      obtain ⟨acc, r, hown, hbr, kr, hres, hlen⟩ := hrel
      cases r with
      | nil =>
        have c0 := hbr.cell
        have f0 := hbr.free 0
        go_wp2_with (go_at_call 109; refine (need_bad _).mono ?_; rintro e w4 ⟨rfl, rfl⟩)
        exact ⟨rfl, TextPost.bad (hres.out.trans (by rw [Off.textLoop])) kr⟩
      | cons c r =>
        have c0 := hbr.cell
        have f0 := hbr.free 0
        have hx := tail_extract c r
        have hx0 : ∀ h, (ByteArray.mk (c :: r).toArray)[0]'h = c := fun _ => rfl
        have hbs := hbr.set r
        have ks : Keeps (At1 b) w (wr.setCell ⟨b, 0, none⟩ (.string ⟨r.toArray⟩)) := kr.set1 _
        have howns : (wr.setCell ⟨b, 0, none⟩ (.string ⟨r.toArray⟩)).ownsRow w.heap.size 5 1 u3 acc.length (Lib.byteCells acc) := ownsRow_setCell_below hown hlt _
        have hconv := conv_own howns
        by_cases h34 : c = 34
        · subst h34
          go_wp2_with (go_at_call 109; refine (need_ok _).mono ?_; rintro e w4 ⟨rfl, rfl⟩)
          go_ret
          exact TextPost.good (hres.out.trans (Off.textLoop_end acc r)) ks hbs
        · have n34 : ((c.toNat : Int) == 34) = false := by
            rw [beq_eq_false_iff_ne]; intro e; exact h34 (UInt8.toNat_inj.1 (by rw [show (34 : UInt8).toNat = 34 from rfl]; omega))
          by_cases h92 : c = 92
          · subst h92
            cases r with
            | nil =>
              go_wp2_with (first
                | (go_at_call 109; refine (need_ok _).mono ?_; rintro e w4 ⟨rfl, rfl⟩)
                | (go_at_call 187; refine (digit_bad b [] _ hbs (by intro c r h; cases h)).mono ?_; rintro e w4 ⟨rfl, rfl⟩))
              exact ⟨rfl, TextPost.bad (hres.out.trans (by rw [Off.textLoop.eq_def]; simp)) ks⟩
            | cons a r2 =>
              simp only [List.length_cons] at hx
              cases ha : Off.hexV a with
              | none =>
                go_wp2_with (first
                  | (go_at_call 109; refine (need_ok _).mono ?_; rintro e w4 ⟨rfl, rfl⟩)
                  | (go_at_call 187; refine (digit_bad b (a :: r2) _ hbs (by intro c r h; injection h with h1 h2; rw [← h1]; exact ha)).mono ?_; rintro e w4 ⟨rfl, rfl⟩))
                refine ⟨rfl, TextPost.bad (hres.out.trans ?_) ks⟩
                rw [Off.textLoop.eq_def]
                cases r2 <;> simp [ha]
              | some h =>
                have hH := hexV_lt a h ha
                have Ha := Lib.hid ha
                have cd := digit_ok b a h r2 _ hbs ha
                clear ha hconv
                go_wp2_with (first
                  | (go_at_call 109; refine (need_ok _).mono ?_; rintro e w4 ⟨rfl, rfl⟩)
                  | (go_at_call 187; refine cd.mono ?_; rintro e w2 ⟨rfl, hb2, k2⟩))
                have kk : Keeps (At1 b) w w2 := ks.trans k2
                have own2 := k2.owns (fun k e => by unfold At1 at e; omega) howns
                cases r2 with
                | nil =>
                  go_wp2_with (go_at_call 187; refine (digit_bad b [] _ hb2 (by intro c r h; cases h)).mono ?_; rintro e w4 ⟨rfl, rfl⟩)
                  refine ⟨rfl, TextPost.bad (hres.out.trans ?_) kk⟩
                  rw [Off.textLoop.eq_def]
                  simp
                | cons a2 r3 =>
                  cases ha : Off.hexV a2 with
                  | none =>
                    go_wp2_with (go_at_call 187; refine (digit_bad b (a2 :: r3) _ hb2 (by intro c r h; injection h with h1 h2; rw [← h1]; exact ha)).mono ?_; rintro e w4 ⟨rfl, rfl⟩)
                    refine ⟨rfl, TextPost.bad (hres.out.trans ?_) kk⟩
                    rw [Off.textLoop.eq_def]
                    simp [ha, Ha.out]
                  | some l =>
                    have hL := hexV_lt a2 l ha
                    have Ha2 := Lib.hid ha
                    have cd2 := digit_ok b a2 l r3 _ hb2 ha
                    clear ha cd hx hx0 c0 f0
                    have k2s := k2.size
                    go_wp2_with (first
                      | (go_at_call 187; refine cd2.mono ?_; rintro e w3 ⟨rfl, hb3, k3⟩
                         have own3 := k3.owns (fun k e => by unfold At1 at e; omega) own2
                         have kk3 := kk.trans k3)
                      | (at_builtin; refine wpList_append_own _ rfl _ _ 89 rfl w.heap.size 5 i0 (.int .u8 0) 1 1 Tryz.underlying89 hi hz0 hz1 hz2 rfl (by decide) _ _ _ rfl (own3.alloc _) _ 1 1 [.int .u8 (bits BinOp.or IntKind.u8 ((h.toNat : Int) * 16) (l.toNat : Int))] rfl rfl ?d1 ?d2 ?d3 ?d4 ?d5 ?_))
                    case d1 =>
                      intro j u hj
                      match j, hj with
                      | 0, hj =>
                        simp at hj; subst hj
                        show (World.alloc _ _).cell? ⟨w3.heap.size, 0, none⟩ = _
                        rw [World.cell?_alloc_at _ _ _ _ (by simp)]; rfl
                    case d2 => intro u hu; simp at hu; subst hu; rfl
                    case d3 => simp at hlen hs0; unfold maxLen; omega
                    case d4 => simp at hlen hs0; omega
                    case d5 => have := kk3.size; simp; omega
                    intro v' w4 hown' hgrow _
                    rw [or_hex hH hL] at hown'
                    have kg : Keeps (At1 b) w w4 := (kk3.alloc _).grown hgrow fun k hk => (own3.lt k hk).1
                    have hbg : Scan b r3 w4 := (hb3.alloc _).grown hgrow fun k hk => Nat.lt_of_lt_of_le hlt (own3.lt k hk).1
                    rw [byteCells_snoc] at hown'
                    go_wp2
                    go_roundw
                    case rel => exact ⟨acc ++ [h <<< 4 ||| l], r3, by simpa using hown', hbg, kg, hres.out.trans (Off.textLoop_esc acc a a2 h l r3 Ha.out Ha2.out), by simp at hlen ⊢; omega⟩
                    case measure => rw [hbg.len, hbr.len]; simp; omega
          · have n92 : ((c.toNat : Int) == 92) = false := by
              rw [beq_eq_false_iff_ne]; intro e; exact h92 (UInt8.toNat_inj.1 (by rw [show (92 : UInt8).toNat = 92 from rfl]; omega))
            go_wp2_with (first
              | (go_at_call 109; refine (need_ok _).mono ?_; rintro e w4 ⟨rfl, rfl⟩)
              | (at_builtin; refine wpList_append_own _ rfl _ _ 89 rfl w.heap.size 5 i0 (.int .u8 0) 1 1 Tryz.underlying89 hi hz0 hz1 hz2 rfl (by decide) _ _ _ rfl (howns.alloc _) _ 1 1 [.int .u8 c.toNat] rfl rfl ?c1 ?c2 ?c3 ?c4 ?c5 ?_))
            case c1 =>
              intro j u hj
              match j, hj with
              | 0, hj =>
                simp at hj; subst hj
                show (World.alloc _ _).cell? ⟨wr.heap.size, 0, none⟩ = _
                rw [World.cell?_alloc_at _ _ _ _ (by simp)]; rfl
            case c2 => intro u hu; simp at hu; subst hu; rfl
            case c3 => simp at hlen hs0; unfold maxLen; omega
            case c4 => simp at hlen hs0; omega
            case c5 => have := kr.size; simp; omega
            intro v' w2 hown' hgrow _
            have kg : Keeps (At1 b) w w2 := (ks.alloc _).grown hgrow fun k hk => (howns.lt k hk).1
            have hbg : Scan b r w2 := (hbs.alloc _).grown hgrow fun k hk => Nat.lt_of_lt_of_le hlt (howns.lt k hk).1
            rw [byteCells_snoc] at hown'
            clear hconv hx hx0 c0 f0
            go_wp2
            go_roundw
            case rel => exact ⟨acc ++ [c], r, by simpa using hown', hbg, kg, hres.out.trans (Off.textLoop_plain acc c r h34 h92), by simp at hlen ⊢; omega⟩
            case measure => rw [hbg.len, hbr.len]; simp
  · have hpre : Lib.hasPrefix s [34] = false := by
      cases s with
      | nil => rfl
      | cons c r =>
        have : c ≠ 34 := fun e => hq ⟨r, by rw [e]⟩
        simp [Lib.hasPrefix, List.isPrefixOf, this.symm]
    have cp := lib_hasPrefix s [34] w
    rw [hpre] at cp
    clear hpre
    have hT : Off.text s = none := by
      unfold Off.text
      split
      · rename_i r; exact absurd ⟨r, rfl⟩ hq
      · rfl
    have HT := Lib.hid hT
    clear hT hq
    go_enter Tryz.func158, Tryz.ntmps158
    go_wp2_with (first
      | (go_at_call 186; refine cp.mono ?_; rintro e w1 ⟨rfl, rfl⟩)
      | (go_at_call 109; refine (need_bad _).mono ?_; rintro e w4 ⟨rfl, rfl⟩))
    exact ⟨rfl, TextPost.bad HT.out (Keeps.refl _ _)⟩

end Go.Proofs.YtkpenijilnagjaaGreatDoor
