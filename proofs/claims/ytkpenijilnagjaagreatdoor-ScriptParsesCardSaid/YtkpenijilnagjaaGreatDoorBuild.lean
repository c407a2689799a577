/- strings.Builder and strings.Join: the shelf's structure of facts, filled in by hand for this program. -/
import Derived.Test.YtkpenijilnagjaaGreatDoorLine
import Derived.Shelf.Strings.OnBuilder
namespace Go.Proofs.YtkpenijilnagjaaGreatDoor
open Go.RowKit Go.Shelf

def bren : Ren := {
  f := fun x => match x with | 156 => 77 | 165 => 122 | 166 => 41 | 169 => 42 | 240 => 79 | 241 => 163 | 276 => 123 | 277 => 189 | n => n
  t := fun x => match x with | 0 => 0 | 3 => 3 | 4 => 4 | 5 => 5 | 9 => 9 | 20 => 20 | 31 => 81 | 37 => 89 | 70 => 88 | 72 => 91 | 75 => 93 | 76 => 94 | 80 => 96 | 127 => 153 | 164 => 205 | n => n
  g := fun n => n }
theorem blay : Lays.n156 Tryz.prog bren := {
  mixed := rfl
  f156 := Tryz.func77.trans rfl
  f165 := Tryz.func122.trans rfl
  f166 := Tryz.func41.trans rfl
  f169 := Tryz.func42.trans rfl
  f240 := Tryz.func79.trans rfl
  f241 := Tryz.func163.trans rfl
  f276 := Tryz.func123.trans rfl
  f277 := Tryz.func189.trans rfl
  t0 := Tryz.underlying0
  a0 := Tryz.isAgg0
  z0 := Tryz.sizeOf0
  v0 := Tryz.zeroValue0
  t3 := Tryz.underlying3
  a3 := Tryz.isAgg3
  z3 := Tryz.sizeOf3
  v3 := Tryz.zeroValue3
  t4 := Tryz.underlying4
  a4 := Tryz.isAgg4
  z4 := Tryz.sizeOf4
  v4 := Tryz.zeroValue4
  t9 := Tryz.underlying9
  a9 := Tryz.isAgg9
  z9 := Tryz.sizeOf9
  v9 := Tryz.zeroValue9
  t20 := Tryz.underlying20
  a20 := Tryz.isAgg20
  z20 := Tryz.sizeOf20
  v20 := Tryz.zeroValue20
  t31 := Tryz.underlying81
  a31 := Tryz.isAgg81
  z31 := Tryz.sizeOf81
  v31 := Tryz.zeroValue81
  t37 := Tryz.underlying89
  a37 := Tryz.isAgg89
  z37 := Tryz.sizeOf89
  v37 := Tryz.zeroValue89
  t70 := Tryz.underlying88
  a70 := Tryz.isAgg88
  z70 := Tryz.sizeOf88
  v70 := Tryz.zeroValue88
  t72 := Tryz.underlying91
  a72 := Tryz.isAgg91
  z72 := Tryz.sizeOf91
  v72 := Tryz.zeroValue91
  t75 := Tryz.underlying93
  a75 := Tryz.isAgg93
  z75 := Tryz.sizeOf93
  v75 := Tryz.zeroValue93
  t76 := Tryz.underlying94
  a76 := Tryz.isAgg94
  z76 := Tryz.sizeOf94
  v76 := Tryz.zeroValue94
  t127 := Tryz.underlying153
  a127 := Tryz.isAgg153
  z127 := Tryz.sizeOf153
  v127 := Tryz.zeroValue153
  t164 := Tryz.underlying205
  a164 := Tryz.isAgg205
  z164 := Tryz.sizeOf205
  v164 := Tryz.zeroValue205 }
theorem bext : Builder.Extra Tryz.prog bren := {
  sizeBuilder := by kernel_rfl
  liesBuilder := by kernel_rfl
  t5 := Tryz.underlying5
  a5 := Tryz.isAgg5
  z5 := Tryz.sizeOf5
  v5 := Tryz.zeroValue5
  infoByte := by kernel_rfl
  cellsByte := by kernel_rfl
  sizeByte := by kernel_rfl
  neB5 := by decide }

theorem joinTail_nil (sep : List UInt8) : Lib.joinTail sep [] = [] := rfl
theorem join_joinW : ∀ ws : List (List UInt8), Lib.join ws [32] = Off.joinW ws
  | [] => rfl
  | [a] => by rw [Lib.join_one]; rfl
  | a :: b :: r => by
    have ih := join_joinW (b :: r)
    rw [Lib.join_cons] at ih ⊢
    show a ++ Lib.joinTail [32] (b :: r) = a ++ 32 :: Off.joinW (b :: r)
    rw [← ih]
    rfl

/-- strings.Join of a row of words, by a blank -/
theorem lib_join (g c : Nat) (ws : List (List UInt8)) (w : World) (hc : ∀ j u, (ws.map strV)[j]? = some u → w.cell? ⟨g, j, none⟩ = some u) (hg : g < w.heap.size) (hcap : ws.length ≤ c)
    (hN : ws.length ≤ 1000) (hl : (Off.joinW ws).length ≤ 140737488355328) :
    Calls Tryz.prog 77 #[.slice (some ⟨g, 0, none⟩) ws.length c, .string ⟨#[32]⟩] w fun e w' => e = .returned (.string ⟨(Off.joinW ws).toArray⟩) ∧ Keeps No w w' := by
  have hm : (ws.map fun x => ByteArray.mk x.toArray).map (fun x => x.data.toList) = ws := by
    rw [List.map_map]; exact (List.map_congr_left fun x _ => by simp).trans (List.map_id _)
  have := Any.strings_Join blay bext g 0 c (ws.map fun x => ByteArray.mk x.toArray) ⟨#[32]⟩ w
    (fun j x hx => by
      rw [Nat.zero_add]
      refine hc j _ ?_
      rw [List.getElem?_map] at hx ⊢
      cases h : ws[j]? with
      | none => rw [h] at hx; cases hx
      | some y => rw [h] at hx; cases hx; rfl)
    hg (by simp; omega) (by simpa using hcap) (by rw [hm, show (ByteArray.mk #[32]).data.toList = [32] from rfl, join_joinW]; exact hl)
  rw [hm, show (ByteArray.mk #[32]).data.toList = [32] from rfl, join_joinW, List.length_map] at this
  exact this.mono fun e w' ⟨h1, h2⟩ => ⟨h1, Keeps.of_below h2⟩

theorem lib_join_nil (a : Option Addr) (c : Nat) (w : World) :
    Calls Tryz.prog 77 #[.slice a 0 c, .string ⟨#[32]⟩] w fun e w' => e = .returned (.string ⟨#[]⟩) ∧ w' = w :=
  Any.strings_Join_none blay bext a c ⟨#[32]⟩ w

theorem lib_write (B b : Nat) (bs : List Value) (s : ByteArray) (w : World) (h : Lib.IsBuilder 91 5 B b bs w) (hlen : bs.length + s.size ≤ 140737488355328) (hBw : B ≤ w.heap.size) :
    Calls Tryz.prog 41 #[.pointer (some ⟨b, 0, none⟩), .string s] w fun e w' =>
      e = .returned (.tuple #[.int .i64 s.size, .nilIface]) ∧ (Lib.BuilderAt 91 5 B b (.pointer (some ⟨b, 0, none⟩)) (bs ++ Lib.strCells s) w' ∧ Below B w w') :=
  Any.Builder_WriteString {blay with} bext B b bs s w h hlen hBw
theorem lib_string (B b : Nat) (l : List UInt8) (w : World) (h : Lib.IsBuilder 91 5 B b (Lib.byteCells l) w) (hBw : B ≤ w.heap.size) :
    Calls Tryz.prog 42 #[.pointer (some ⟨b, 0, none⟩)] w fun e w' => e = .returned (.string ⟨l.toArray⟩) ∧ Below B w w' :=
  Any.Builder_String_any {blay with} bext B b l w h hBw

end Go.Proofs.YtkpenijilnagjaaGreatDoor
