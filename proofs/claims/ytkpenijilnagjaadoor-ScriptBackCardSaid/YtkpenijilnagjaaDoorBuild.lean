/- strings.Builder and strings.Join: the shelf's structure of facts, filled in by hand for this program. -/
import Derived.Test.YtkpenijilnagjaaDoorLine
import Derived.Shelf.Strings.OnBuilder
namespace Go.Proofs.YtkpenijilnagjaaDoor
open Go.RowKit Go.Shelf

def bren : Ren := {
  f := fun x => match x with | 156 => 19 | 165 => 30 | 166 => 12 | 169 => 13 | 240 => 21 | 241 => 43 | 276 => 32 | 277 => 55 | n => n
  t := fun x => match x with | 0 => 0 | 3 => 3 | 4 => 4 | 5 => 5 | 9 => 9 | 20 => 20 | 31 => 51 | 37 => 41 | 70 => 40 | 72 => 43 | 75 => 47 | 76 => 48 | 80 => 50 | 127 => 63 | 164 => 79 | n => n
  g := fun n => n }
theorem blay : Lays.n156 Tryd.prog bren := {
  mixed := rfl
  f156 := Tryd.func19.trans rfl
  f165 := Tryd.func30.trans rfl
  f166 := Tryd.func12.trans rfl
  f169 := Tryd.func13.trans rfl
  f240 := Tryd.func21.trans rfl
  f241 := Tryd.func43.trans rfl
  f276 := Tryd.func32.trans rfl
  f277 := Tryd.func55.trans rfl
  t0 := Tryd.underlying0
  a0 := Tryd.isAgg0
  z0 := Tryd.sizeOf0
  v0 := Tryd.zeroValue0
  t3 := Tryd.underlying3
  a3 := Tryd.isAgg3
  z3 := Tryd.sizeOf3
  v3 := Tryd.zeroValue3
  t4 := Tryd.underlying4
  a4 := Tryd.isAgg4
  z4 := Tryd.sizeOf4
  v4 := Tryd.zeroValue4
  t9 := Tryd.underlying9
  a9 := Tryd.isAgg9
  z9 := Tryd.sizeOf9
  v9 := Tryd.zeroValue9
  t20 := Tryd.underlying20
  a20 := Tryd.isAgg20
  z20 := Tryd.sizeOf20
  v20 := Tryd.zeroValue20
  t31 := Tryd.underlying51
  a31 := Tryd.isAgg51
  z31 := Tryd.sizeOf51
  v31 := Tryd.zeroValue51
  t37 := Tryd.underlying41
  a37 := Tryd.isAgg41
  z37 := Tryd.sizeOf41
  v37 := Tryd.zeroValue41
  t70 := Tryd.underlying40
  a70 := Tryd.isAgg40
  z70 := Tryd.sizeOf40
  v70 := Tryd.zeroValue40
  t72 := Tryd.underlying43
  a72 := Tryd.isAgg43
  z72 := Tryd.sizeOf43
  v72 := Tryd.zeroValue43
  t75 := Tryd.underlying47
  a75 := Tryd.isAgg47
  z75 := Tryd.sizeOf47
  v75 := Tryd.zeroValue47
  t76 := Tryd.underlying48
  a76 := Tryd.isAgg48
  z76 := Tryd.sizeOf48
  v76 := Tryd.zeroValue48
  t127 := Tryd.underlying63
  a127 := Tryd.isAgg63
  z127 := Tryd.sizeOf63
  v127 := Tryd.zeroValue63
  t164 := Tryd.underlying79
  a164 := Tryd.isAgg79
  z164 := Tryd.sizeOf79
  v164 := Tryd.zeroValue79 }
theorem bext : Builder.Extra Tryd.prog bren := {
  sizeBuilder := by kernel_rfl
  liesBuilder := by kernel_rfl
  t5 := Tryd.underlying5
  a5 := Tryd.isAgg5
  z5 := Tryd.sizeOf5
  v5 := Tryd.zeroValue5
  infoByte := by kernel_rfl
  cellsByte := by kernel_rfl
  sizeByte := by kernel_rfl
  neB5 := by decide }

theorem joinTail_nil (sep : List UInt8) : Lib.joinTail sep [] = [] := rfl
theorem join_joinW : ∀ ws : List (List UInt8), Lib.join ws [32] = Off.joinW ws
  | [] => rfl
  | [a] => by rw [Lib.join_one]; rfl
  | a :: b :: r => by
    have ih := join_joinW (b :: r)
    rw [Lib.join_cons] at ih ⊢
    show a ++ Lib.joinTail [32] (b :: r) = a ++ 32 :: Off.joinW (b :: r)
    rw [← ih]
    rfl

/-- strings.Join of a row of words, by a blank -/
theorem lib_join (g c : Nat) (ws : List (List UInt8)) (w : World) (hc : ∀ j u, (ws.map strV)[j]? = some u → w.cell? ⟨g, j, none⟩ = some u) (hg : g < w.heap.size) (hcap : ws.length ≤ c)
    (hN : ws.length ≤ 1000) (hl : (Off.joinW ws).length ≤ 140737488355328) :
    Calls Tryd.prog 19 #[.slice (some ⟨g, 0, none⟩) ws.length c, .string ⟨#[32]⟩] w fun e w' => e = .returned (.string ⟨(Off.joinW ws).toArray⟩) ∧ Keeps No w w' := by
  have hm : (ws.map fun x => ByteArray.mk x.toArray).map (fun x => x.data.toList) = ws := by
    rw [List.map_map]; exact (List.map_congr_left fun x _ => by simp).trans (List.map_id _)
  have := Any.strings_Join blay bext g 0 c (ws.map fun x => ByteArray.mk x.toArray) ⟨#[32]⟩ w
    (fun j x hx => by
      rw [Nat.zero_add]
      refine hc j _ ?_
      rw [List.getElem?_map] at hx ⊢
      cases h : ws[j]? with
      | none => rw [h] at hx; cases hx
      | some y => rw [h] at hx; cases hx; rfl)
    hg (by simp; omega) (by simpa using hcap) (by rw [hm, show (ByteArray.mk #[32]).data.toList = [32] from rfl, join_joinW]; exact hl)
  rw [hm, show (ByteArray.mk #[32]).data.toList = [32] from rfl, join_joinW, List.length_map] at this
  exact this.mono fun e w' ⟨h1, h2⟩ => ⟨h1, Keeps.of_below h2⟩

theorem lib_join_nil (a : Option Addr) (c : Nat) (w : World) :
    Calls Tryd.prog 19 #[.slice a 0 c, .string ⟨#[32]⟩] w fun e w' => e = .returned (.string ⟨#[]⟩) ∧ w' = w :=
  Any.strings_Join_none blay bext a c ⟨#[32]⟩ w

theorem lib_write (B b : Nat) (bs : List Value) (s : ByteArray) (w : World) (h : Lib.IsBuilder 43 5 B b bs w) (hlen : bs.length + s.size ≤ 140737488355328) (hBw : B ≤ w.heap.size) :
    Calls Tryd.prog 12 #[.pointer (some ⟨b, 0, none⟩), .string s] w fun e w' =>
      e = .returned (.tuple #[.int .i64 s.size, .nilIface]) ∧ (Lib.BuilderAt 43 5 B b (.pointer (some ⟨b, 0, none⟩)) (bs ++ Lib.strCells s) w' ∧ Below B w w') :=
  Any.Builder_WriteString {blay with} bext B b bs s w h hlen hBw
theorem lib_string (B b : Nat) (l : List UInt8) (w : World) (h : Lib.IsBuilder 43 5 B b (Lib.byteCells l) w) (hBw : B ≤ w.heap.size) :
    Calls Tryd.prog 13 #[.pointer (some ⟨b, 0, none⟩)] w fun e w' => e = .returned (.string ⟨l.toArray⟩) ∧ Below B w w' :=
  Any.Builder_String_any {blay with} bext B b l w h hBw

end Go.Proofs.YtkpenijilnagjaaDoor
