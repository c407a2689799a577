/- Whether an op is right: kind by kind. -/
import Derived.Test.YthfjefcljeamgaaGreatDoorOpD
namespace Go.Proofs.YthfjefcljeamgaaGreatDoor
set_option maxRecDepth 100000
set_option maxHeartbeats 4000000
open Go.RowKit
theorem parts1_any (kd : Int) (h : kd = 1) (w : World) :
  Calls Tryz.prog 101 #[.int .i64 kd] w fun e w' => e = .returned (.slice (some ⟨w.heap.size, 0, none⟩) 1 1) ∧ w.alloc (.cells #[.int .i64 2] 204) = w' := by
 subst h
 go_enter Tryz.func101, Tryz.ntmps101
 go_wp2
 go_ret
 exact ⟨rfl, rfl⟩
theorem parts2_any (kd : Int) (h : kd = 2) (w : World) :
  Calls Tryz.prog 101 #[.int .i64 kd] w fun e w' => e = .returned (.slice (some ⟨w.heap.size, 0, none⟩) 2 2) ∧ w.alloc (.cells #[.int .i64 0, .int .i64 2] 204) = w' := by
 subst h
 go_enter Tryz.func101, Tryz.ntmps101
 go_wp2
 go_ret
 exact ⟨rfl, rfl⟩
theorem parts3_any (kd : Int) (h : kd = 3) (w : World) :
  Calls Tryz.prog 101 #[.int .i64 kd] w fun e w' => e = .returned (.slice (some ⟨w.heap.size, 0, none⟩) 2 2) ∧ w.alloc (.cells #[.int .i64 1, .int .i64 3] 204) = w' := by
 subst h
 go_enter Tryz.func101, Tryz.ntmps101
 go_wp2
 go_ret
 exact ⟨rfl, rfl⟩
theorem parts4_any (kd : Int) (h : kd = 4) (w : World) :
  Calls Tryz.prog 101 #[.int .i64 kd] w fun e w' => e = .returned (.slice (some ⟨w.heap.size, 0, none⟩) 1 1) ∧ w.alloc (.cells #[.int .i64 4] 204) = w' := by
 subst h
 go_enter Tryz.func101, Tryz.ntmps101
 go_wp2
 go_ret
 exact ⟨rfl, rfl⟩
theorem parts5_any (kd : Int) (h : kd = 5) (w : World) :
  Calls Tryz.prog 101 #[.int .i64 kd] w fun e w' => e = .returned (.slice (some ⟨w.heap.size, 0, none⟩) 2 2) ∧ w.alloc (.cells #[.int .i64 1, .int .i64 2] 204) = w' := by
 subst h
 go_enter Tryz.func101, Tryz.ntmps101
 go_wp2
 go_ret
 exact ⟨rfl, rfl⟩
theorem parts6_any (kd : Int) (h : kd = 6) (w : World) :
  Calls Tryz.prog 101 #[.int .i64 kd] w fun e w' => e = .returned (.slice (some ⟨w.heap.size, 0, none⟩) 2 2) ∧ w.alloc (.cells #[.int .i64 0, .int .i64 5] 204) = w' := by
 subst h
 go_enter Tryz.func101, Tryz.ntmps101
 go_wp2
 go_ret
 exact ⟨rfl, rfl⟩
theorem ok1 {o : Dc.Op} (h : o.kind = 1) : o.ok = (Dc.rightStamp o.t o.id.R && Off.rightOp o.id && (partOk 2 o) && decide ((copyPart 2 o.bare o) = o)) := by
 unfold Dc.Op.ok Dc.Op.parts Dc.Op.own
 simp only [h]
 rfl
theorem right1_any (o : Dc.Op) (cv : Value) (w : World) (hE : Env w) (hL : Lies 4 cutCells cv o.cuts w) (hk : o.kind = 1) :
  Calls Tryz.prog 66 #[opV o cv] w (ContPost o.ok w) := by
 obtain ⟨a0, an, ac, rfl⟩ : ∃ a0 an ac, cv = .slice a0 an ac := by obtain ⟨_, x, y, h, _⟩ := hL; exact ⟨_, _, _, h⟩
 have HOK := Hx (ok1 hk)
 have cS := fun w => rightStamp_any o.t o.id.R w
 have cO := fun w => rightOp_any o.id.R o.id.N w
 have cB := fun w => bare_any o (.slice a0 an ac) w
 have cQ := fun ca w h1 h2 => sameOp_any (copyPart 2 o.bare o) o ca (.slice a0 an ac) w h1 h2
 have cN := fun w => parts1_any o.kind hk w
 have hoid : (⟨o.id.R, o.id.N⟩ : Off.Bid) = o.id := rfl
 rw [hoid] at cO
 generalize o.ok = ok at HOK ⊢
 generalize Dc.rightStamp o.t o.id.R = rs at HOK cS
 generalize Off.rightOp o.id = ro at HOK cO
 generalize decide ((copyPart 2 o.bare o) = o) = eqb at HOK cQ
 clear hoid hk
 have c0 := fun w (hE : Env w) => part2_any o (.slice a0 an ac) w hE
 generalize partOk 2 o = q0 at HOK c0
 go_enter Tryz.func66, Tryz.ntmps66
 go_upto_region 1 with (fail)
 have kA : Keeps No w (w.alloc (.cells (opArr o (.slice a0 an ac)) 29)) := (Keeps.refl _ _).alloc _
 have hA := Nx w (.cells (opArr o (.slice a0 an ac)) 29)
 obtain ⟨A, eA⟩ : ∃ A, A = w.heap.size := ⟨_, rfl⟩
 rw [← eA] at hA ⊢
 generalize w.alloc (.cells (opArr o (.slice a0 an ac)) 29) = w1 at kA hA ⊢
 have EA := Hx eA
 clear eA
 have cA := Cx hA
 have hA1 := heap_lt hA
 have hNe : A ≠ w1.heap.size := by omega
 go_upto_region 4 with (first
  | (go_at_call 101; refine (cN _).mono ?_; rintro e w2 ⟨rfl, rfl⟩)
  | (go_at_call 102; refine (cS _).mono ?_; rintro e w3 ⟨rfl, k3⟩; have hA := k3.heap (heap_alloc_keep hA _) id; have cA := Cx hA)
  | (go_at_call 103; refine (cO _).mono ?_; rintro e w4 ⟨rfl, k4⟩; have hA := k4.heap hA id; have cA := Cx hA))
 all_goals first
  | (go_ret
     exact ⟨ret_bool (by rw [HOK.out]; simp_all), Kx⟩)
  | skip
 have kq : Keeps No w w4 := Kx
 have hP : w4.heap[w1.heap.size]? = some (.cells #[.int .i64 2] 204 (0, 0)) := k4.heap (k3.heap (Nx w1 _) id) id
 obtain ⟨Pb, ePb⟩ : ∃ b, b = w1.heap.size := ⟨_, rfl⟩
 rw [← ePb] at hP hNe ⊢
 have EPb := Hx ePb
 clear ePb
 have hro : Hid (ro = true) := Hx (by simp_all)
 have hrs : Hid (rs = true) := Hx (by assumption)
 go_upto_region 5 with (first
  | (refine wpList_load_all rfl 29 _ rfl A _ 29 _ rfl hA Tryz.underlying29 rfl Rx ?_)
  | (go_at_call 104; refine (cB _).mono ?_; rintro e w5 ⟨rfl, k5⟩; have hA5 := heap_alloc_keep (k5.heap hA id) (.cells zeroOp 29); have hP5 := heap_alloc_keep (k5.heap hP id) (.cells zeroOp 29); have hB5 := Nx w5 (.cells zeroOp 29))
  | (refine wpList_store_all rfl 29 _ _ rfl w5.heap.size _ _ 29 rfl rfl hB5 (by rfl) Rx (by rfl) ?_; intro w6 hB k6 hz6))
 have k5' : Keeps No w w6 := (((kq.trans k5).alloc (.cells zeroOp 29)).step k6 fun k hk hlt => by have := kq.size; have := k5.size; unfold At1 at hk; omega)
 have hA6 := k6.heap hA5 (fun e => by have := heap_lt (k5.heap hA id); unfold At1 at e; omega)
 have hP6 := k6.heap hP5 (fun e => by have := heap_lt (k5.heap hP id); unfold At1 at e; omega)
 have hAB : A < w5.heap.size := heap_lt (k5.heap hA id)
 have hPB : Pb < w5.heap.size := heap_lt (k5.heap hP id)
 have hwB : w.heap.size ≤ w5.heap.size := (kq.trans k5).size
 obtain ⟨B, eB⟩ : ∃ b, b = w5.heap.size := ⟨_, rfl⟩
 rw [← eB] at hB hAB hPB hwB ⊢
 have EB := Hx eB
 clear eB
 have hB0 : OpAt B o.bare (.slice none 0 0) w6 := hB
 have hL0 : Hid (Lies 4 cutCells (.slice none 0 0) o.bare.cuts w6) := Hx ⟨Nat.zero_le _, none, 0, rfl, Nat.le_refl _, Nat.zero_le _, fun e => absurd rfl e⟩
 have KW := Hx k5'
 have HL := Hx hL
 have HE := Hx hE
 have hAne : ¬ A = B := by omega
 have hPne : ¬ Pb = B := by omega
 clear hP5 hA5 hB5 hA hP hB k6 k5 kq k3 k4 kA hA1 cA hNe hE hL k5' hz6
 go_frame
 go_wp2
 refine wp_loop_rounds 2 ?_
 rw [rounds_succ]
 have cP0 := Cx hP6
 have kr0 : Keeps No w w6 := KW.out
 go_wp2_with (first
  | (refine wpList_load_all rfl 29 _ rfl A _ 29 _ rfl hA6 Tryz.underlying29 rfl Rx ?_)
  | (go_at_call 105; refine (c0 _ (HE.out.no kr0)).mono ?_; rintro e wx0 ⟨rfl, kx0⟩; have hA6 := kx0.heap hA6 id; have hP6 := kx0.heap hP6 id; have hBx0 : OpAt B o.bare (.slice none 0 0) wx0 := kx0.heap hB0 id; have krr0 := kr0.trans kx0)
  | (go_at_call 106; refine (copy2_any B o.bare o (.slice none 0 0) (.slice a0 an ac) _ hBx0).mono ?_; rintro e wy0 ⟨rfl, hB1, kc0⟩; have hA6 := kc0.heap hA6 (fun e => hAne e); have hP6 := kc0.heap hP6 (fun e => hPne e)))
 all_goals first
  | (go_ret
     exact ⟨ret_bool (by rw [HOK.out]; simp_all), krr0⟩)
  | skip
 have KW : Hid (Keeps No w wy0) := Hx (krr0.step kc0 fun k hk hlt => by unfold At1 at hk; omega)
 have hq0 : Hid (q0 = true) := Hx (by simp_all)
 have hL1 : Hid (Lies 4 cutCells (.slice none 0 0) (copyPart 2 o.bare o).cuts wy0) := Hx ((hL0.out.no kx0).keeps kc0 fun g hg => by simp [Value.ownBlock] at hg)
 clear kr0 krr0 kx0 kc0 cP0 hBx0
 rw [rounds_succ]
 have HB : Hid (OpAt B (copyPart 2 o.bare o) (.slice none 0 0) wy0) := Hx hB1
 go_wp2_with (first
  | (refine wpList_load_all rfl 29 _ rfl A _ 29 _ rfl hA6 Tryz.underlying29 rfl Rx ?_)
  | (refine wpList_load_all rfl 29 _ rfl B _ 29 _ rfl HB.out Tryz.underlying29 rfl Rx ?_)
  | (go_at_call 107; refine (cQ _ _ hL1.out (HL.out.no KW.out)).mono ?_; rintro e wz ⟨rfl, kz⟩))
 go_ret
 exact ⟨ret_bool (by rw [HOK.out, hrs.out, hro.out, hq0.out]; simp), KW.out.trans kz⟩
theorem ok2 {o : Dc.Op} (h : o.kind = 2) : o.ok = (Dc.rightStamp o.t o.id.R && Off.rightOp o.id && (partOk 0 o && partOk 2 o) && decide ((copyPart 2 (copyPart 0 o.bare o) o) = o)) := by
 unfold Dc.Op.ok Dc.Op.parts Dc.Op.own
 simp only [h]
 rfl
theorem right2_any (o : Dc.Op) (cv : Value) (w : World) (hE : Env w) (hL : Lies 4 cutCells cv o.cuts w) (hk : o.kind = 2) :
  Calls Tryz.prog 66 #[opV o cv] w (ContPost o.ok w) := by
 obtain ⟨a0, an, ac, rfl⟩ : ∃ a0 an ac, cv = .slice a0 an ac := by obtain ⟨_, x, y, h, _⟩ := hL; exact ⟨_, _, _, h⟩
 have HOK := Hx (ok2 hk)
 have cS := fun w => rightStamp_any o.t o.id.R w
 have cO := fun w => rightOp_any o.id.R o.id.N w
 have cB := fun w => bare_any o (.slice a0 an ac) w
 have cQ := fun ca w h1 h2 => sameOp_any (copyPart 2 (copyPart 0 o.bare o) o) o ca (.slice a0 an ac) w h1 h2
 have cN := fun w => parts2_any o.kind hk w
 have hoid : (⟨o.id.R, o.id.N⟩ : Off.Bid) = o.id := rfl
 rw [hoid] at cO
 generalize o.ok = ok at HOK ⊢
 generalize Dc.rightStamp o.t o.id.R = rs at HOK cS
 generalize Off.rightOp o.id = ro at HOK cO
 generalize decide ((copyPart 2 (copyPart 0 o.bare o) o) = o) = eqb at HOK cQ
 clear hoid hk
 have c0 := fun w  => part0_any o (.slice a0 an ac) w
 generalize partOk 0 o = q0 at HOK c0
 have c1 := fun w (hE : Env w) => part2_any o (.slice a0 an ac) w hE
 generalize partOk 2 o = q1 at HOK c1
 go_enter Tryz.func66, Tryz.ntmps66
 go_upto_region 1 with (fail)
 have kA : Keeps No w (w.alloc (.cells (opArr o (.slice a0 an ac)) 29)) := (Keeps.refl _ _).alloc _
 have hA := Nx w (.cells (opArr o (.slice a0 an ac)) 29)
 obtain ⟨A, eA⟩ : ∃ A, A = w.heap.size := ⟨_, rfl⟩
 rw [← eA] at hA ⊢
 generalize w.alloc (.cells (opArr o (.slice a0 an ac)) 29) = w1 at kA hA ⊢
 have EA := Hx eA
 clear eA
 have cA := Cx hA
 have hA1 := heap_lt hA
 have hNe : A ≠ w1.heap.size := by omega
 go_upto_region 4 with (first
  | (go_at_call 101; refine (cN _).mono ?_; rintro e w2 ⟨rfl, rfl⟩)
  | (go_at_call 102; refine (cS _).mono ?_; rintro e w3 ⟨rfl, k3⟩; have hA := k3.heap (heap_alloc_keep hA _) id; have cA := Cx hA)
  | (go_at_call 103; refine (cO _).mono ?_; rintro e w4 ⟨rfl, k4⟩; have hA := k4.heap hA id; have cA := Cx hA))
 all_goals first
  | (go_ret
     exact ⟨ret_bool (by rw [HOK.out]; simp_all), Kx⟩)
  | skip
 have kq : Keeps No w w4 := Kx
 have hP : w4.heap[w1.heap.size]? = some (.cells #[.int .i64 0, .int .i64 2] 204 (0, 0)) := k4.heap (k3.heap (Nx w1 _) id) id
 obtain ⟨Pb, ePb⟩ : ∃ b, b = w1.heap.size := ⟨_, rfl⟩
 rw [← ePb] at hP hNe ⊢
 have EPb := Hx ePb
 clear ePb
 have hro : Hid (ro = true) := Hx (by simp_all)
 have hrs : Hid (rs = true) := Hx (by assumption)
 go_upto_region 5 with (first
  | (refine wpList_load_all rfl 29 _ rfl A _ 29 _ rfl hA Tryz.underlying29 rfl Rx ?_)
  | (go_at_call 104; refine (cB _).mono ?_; rintro e w5 ⟨rfl, k5⟩; have hA5 := heap_alloc_keep (k5.heap hA id) (.cells zeroOp 29); have hP5 := heap_alloc_keep (k5.heap hP id) (.cells zeroOp 29); have hB5 := Nx w5 (.cells zeroOp 29))
  | (refine wpList_store_all rfl 29 _ _ rfl w5.heap.size _ _ 29 rfl rfl hB5 (by rfl) Rx (by rfl) ?_; intro w6 hB k6 hz6))
 have k5' : Keeps No w w6 := (((kq.trans k5).alloc (.cells zeroOp 29)).step k6 fun k hk hlt => by have := kq.size; have := k5.size; unfold At1 at hk; omega)
 have hA6 := k6.heap hA5 (fun e => by have := heap_lt (k5.heap hA id); unfold At1 at e; omega)
 have hP6 := k6.heap hP5 (fun e => by have := heap_lt (k5.heap hP id); unfold At1 at e; omega)
 have hAB : A < w5.heap.size := heap_lt (k5.heap hA id)
 have hPB : Pb < w5.heap.size := heap_lt (k5.heap hP id)
 have hwB : w.heap.size ≤ w5.heap.size := (kq.trans k5).size
 obtain ⟨B, eB⟩ : ∃ b, b = w5.heap.size := ⟨_, rfl⟩
 rw [← eB] at hB hAB hPB hwB ⊢
 have EB := Hx eB
 clear eB
 have hB0 : OpAt B o.bare (.slice none 0 0) w6 := hB
 have hL0 : Hid (Lies 4 cutCells (.slice none 0 0) o.bare.cuts w6) := Hx ⟨Nat.zero_le _, none, 0, rfl, Nat.le_refl _, Nat.zero_le _, fun e => absurd rfl e⟩
 have KW := Hx k5'
 have HL := Hx hL
 have HE := Hx hE
 have hAne : ¬ A = B := by omega
 have hPne : ¬ Pb = B := by omega
 clear hP5 hA5 hB5 hA hP hB k6 k5 kq k3 k4 kA hA1 cA hNe hE hL k5' hz6
 go_frame
 go_wp2
 refine wp_loop_rounds 3 ?_
 rw [rounds_succ]
 have cP0 := Cx hP6
 have kr0 : Keeps No w w6 := KW.out
 go_wp2_with (first
  | (refine wpList_load_all rfl 29 _ rfl A _ 29 _ rfl hA6 Tryz.underlying29 rfl Rx ?_)
  | (go_at_call 105; refine (c0 _ ).mono ?_; rintro e wx0 ⟨rfl, kx0⟩; have hA6 := kx0.heap hA6 id; have hP6 := kx0.heap hP6 id; have hBx0 : OpAt B o.bare (.slice none 0 0) wx0 := kx0.heap hB0 id; have krr0 := kr0.trans kx0)
  | (go_at_call 106; refine (copy0_any B o.bare o (.slice none 0 0) (.slice a0 an ac) _ hBx0).mono ?_; rintro e wy0 ⟨rfl, hB1, kc0⟩; have hA6 := kc0.heap hA6 (fun e => hAne e); have hP6 := kc0.heap hP6 (fun e => hPne e)))
 all_goals first
  | (go_ret
     exact ⟨ret_bool (by rw [HOK.out]; simp_all), krr0⟩)
  | skip
 have KW : Hid (Keeps No w wy0) := Hx (krr0.step kc0 fun k hk hlt => by unfold At1 at hk; omega)
 have hq0 : Hid (q0 = true) := Hx (by simp_all)
 have hL1 : Hid (Lies 4 cutCells (.slice none 0 0) (copyPart 0 o.bare o).cuts wy0) := Hx ((hL0.out.no kx0).keeps kc0 fun g hg => by simp [Value.ownBlock] at hg)
 clear kr0 krr0 kx0 kc0 cP0 hBx0
 rw [rounds_succ]
 have cP1 := Cx hP6
 have kr1 : Keeps No w wy0 := KW.out
 go_wp2_with (first
  | (refine wpList_load_all rfl 29 _ rfl A _ 29 _ rfl hA6 Tryz.underlying29 rfl Rx ?_)
  | (go_at_call 105; refine (c1 _ (HE.out.no kr1)).mono ?_; rintro e wx1 ⟨rfl, kx1⟩; have hA6 := kx1.heap hA6 id; have hP6 := kx1.heap hP6 id; have hBx1 : OpAt B (copyPart 0 o.bare o) (.slice none 0 0) wx1 := kx1.heap hB1 id; have krr1 := kr1.trans kx1)
  | (go_at_call 106; refine (copy2_any B (copyPart 0 o.bare o) o (.slice none 0 0) (.slice a0 an ac) _ hBx1).mono ?_; rintro e wy1 ⟨rfl, hB2, kc1⟩; have hA6 := kc1.heap hA6 (fun e => hAne e); have hP6 := kc1.heap hP6 (fun e => hPne e)))
 all_goals first
  | (go_ret
     exact ⟨ret_bool (by rw [HOK.out]; simp_all), krr1⟩)
  | skip
 have KW : Hid (Keeps No w wy1) := Hx (krr1.step kc1 fun k hk hlt => by unfold At1 at hk; omega)
 have hq1 : Hid (q1 = true) := Hx (by simp_all)
 have hL2 : Hid (Lies 4 cutCells (.slice none 0 0) (copyPart 2 (copyPart 0 o.bare o) o).cuts wy1) := Hx ((hL1.out.no kx1).keeps kc1 fun g hg => by simp [Value.ownBlock] at hg)
 clear kr1 krr1 kx1 kc1 cP1 hBx1
 rw [rounds_succ]
 have HB : Hid (OpAt B (copyPart 2 (copyPart 0 o.bare o) o) (.slice none 0 0) wy1) := Hx hB2
 go_wp2_with (first
  | (refine wpList_load_all rfl 29 _ rfl A _ 29 _ rfl hA6 Tryz.underlying29 rfl Rx ?_)
  | (refine wpList_load_all rfl 29 _ rfl B _ 29 _ rfl HB.out Tryz.underlying29 rfl Rx ?_)
  | (go_at_call 107; refine (cQ _ _ hL2.out (HL.out.no KW.out)).mono ?_; rintro e wz ⟨rfl, kz⟩))
 go_ret
 exact ⟨ret_bool (by rw [HOK.out, hrs.out, hro.out, hq0.out, hq1.out]; simp), KW.out.trans kz⟩
theorem ok3 {o : Dc.Op} (h : o.kind = 3) : o.ok = (Dc.rightStamp o.t o.id.R && Off.rightOp o.id && (partOk 1 o && partOk 3 o) && decide ((copyPart 3 (copyPart 1 o.bare o) o) = o)) := by
 unfold Dc.Op.ok Dc.Op.parts Dc.Op.own
 simp only [h]
 rfl
theorem right3_any (o : Dc.Op) (cv : Value) (w : World) (hE : Env w) (hL : Lies 4 cutCells cv o.cuts w) (hsz : o.text.length ≤ 1000000000) (hk : o.kind = 3) :
  Calls Tryz.prog 66 #[opV o cv] w (ContPost o.ok w) := by
 obtain ⟨a0, an, ac, rfl⟩ : ∃ a0 an ac, cv = .slice a0 an ac := by obtain ⟨_, x, y, h, _⟩ := hL; exact ⟨_, _, _, h⟩
 have HOK := Hx (ok3 hk)
 have cS := fun w => rightStamp_any o.t o.id.R w
 have cO := fun w => rightOp_any o.id.R o.id.N w
 have cB := fun w => bare_any o (.slice a0 an ac) w
 have cQ := fun ca w h1 h2 => sameOp_any (copyPart 3 (copyPart 1 o.bare o) o) o ca (.slice a0 an ac) w h1 h2
 have cN := fun w => parts3_any o.kind hk w
 have hoid : (⟨o.id.R, o.id.N⟩ : Off.Bid) = o.id := rfl
 rw [hoid] at cO
 generalize o.ok = ok at HOK ⊢
 generalize Dc.rightStamp o.t o.id.R = rs at HOK cS
 generalize Off.rightOp o.id = ro at HOK cO
 generalize decide ((copyPart 3 (copyPart 1 o.bare o) o) = o) = eqb at HOK cQ
 clear hoid hk
 have c0 := fun w  => part1_any o (.slice a0 an ac) w
 generalize partOk 1 o = q0 at HOK c0
 have c1 := fun w  => part3_any o (.slice a0 an ac) w hsz
 generalize partOk 3 o = q1 at HOK c1
 go_enter Tryz.func66, Tryz.ntmps66
 go_upto_region 1 with (fail)
 have kA : Keeps No w (w.alloc (.cells (opArr o (.slice a0 an ac)) 29)) := (Keeps.refl _ _).alloc _
 have hA := Nx w (.cells (opArr o (.slice a0 an ac)) 29)
 obtain ⟨A, eA⟩ : ∃ A, A = w.heap.size := ⟨_, rfl⟩
 rw [← eA] at hA ⊢
 generalize w.alloc (.cells (opArr o (.slice a0 an ac)) 29) = w1 at kA hA ⊢
 have EA := Hx eA
 clear eA
 have cA := Cx hA
 have hA1 := heap_lt hA
 have hNe : A ≠ w1.heap.size := by omega
 go_upto_region 4 with (first
  | (go_at_call 101; refine (cN _).mono ?_; rintro e w2 ⟨rfl, rfl⟩)
  | (go_at_call 102; refine (cS _).mono ?_; rintro e w3 ⟨rfl, k3⟩; have hA := k3.heap (heap_alloc_keep hA _) id; have cA := Cx hA)
  | (go_at_call 103; refine (cO _).mono ?_; rintro e w4 ⟨rfl, k4⟩; have hA := k4.heap hA id; have cA := Cx hA))
 all_goals first
  | (go_ret
     exact ⟨ret_bool (by rw [HOK.out]; simp_all), Kx⟩)
  | skip
 have kq : Keeps No w w4 := Kx
 have hP : w4.heap[w1.heap.size]? = some (.cells #[.int .i64 1, .int .i64 3] 204 (0, 0)) := k4.heap (k3.heap (Nx w1 _) id) id
 obtain ⟨Pb, ePb⟩ : ∃ b, b = w1.heap.size := ⟨_, rfl⟩
 rw [← ePb] at hP hNe ⊢
 have EPb := Hx ePb
 clear ePb
 have hro : Hid (ro = true) := Hx (by simp_all)
 have hrs : Hid (rs = true) := Hx (by assumption)
 go_upto_region 5 with (first
  | (refine wpList_load_all rfl 29 _ rfl A _ 29 _ rfl hA Tryz.underlying29 rfl Rx ?_)
  | (go_at_call 104; refine (cB _).mono ?_; rintro e w5 ⟨rfl, k5⟩; have hA5 := heap_alloc_keep (k5.heap hA id) (.cells zeroOp 29); have hP5 := heap_alloc_keep (k5.heap hP id) (.cells zeroOp 29); have hB5 := Nx w5 (.cells zeroOp 29))
  | (refine wpList_store_all rfl 29 _ _ rfl w5.heap.size _ _ 29 rfl rfl hB5 (by rfl) Rx (by rfl) ?_; intro w6 hB k6 hz6))
 have k5' : Keeps No w w6 := (((kq.trans k5).alloc (.cells zeroOp 29)).step k6 fun k hk hlt => by have := kq.size; have := k5.size; unfold At1 at hk; omega)
 have hA6 := k6.heap hA5 (fun e => by have := heap_lt (k5.heap hA id); unfold At1 at e; omega)
 have hP6 := k6.heap hP5 (fun e => by have := heap_lt (k5.heap hP id); unfold At1 at e; omega)
 have hAB : A < w5.heap.size := heap_lt (k5.heap hA id)
 have hPB : Pb < w5.heap.size := heap_lt (k5.heap hP id)
 have hwB : w.heap.size ≤ w5.heap.size := (kq.trans k5).size
 obtain ⟨B, eB⟩ : ∃ b, b = w5.heap.size := ⟨_, rfl⟩
 rw [← eB] at hB hAB hPB hwB ⊢
 have EB := Hx eB
 clear eB
 have hB0 : OpAt B o.bare (.slice none 0 0) w6 := hB
 have hL0 : Hid (Lies 4 cutCells (.slice none 0 0) o.bare.cuts w6) := Hx ⟨Nat.zero_le _, none, 0, rfl, Nat.le_refl _, Nat.zero_le _, fun e => absurd rfl e⟩
 have KW := Hx k5'
 have HL := Hx hL
 have HE := Hx hE
 have hAne : ¬ A = B := by omega
 have hPne : ¬ Pb = B := by omega
 clear hP5 hA5 hB5 hA hP hB k6 k5 kq k3 k4 kA hA1 cA hNe hE hL k5' hz6
 go_frame
 go_wp2
 refine wp_loop_rounds 3 ?_
 rw [rounds_succ]
 have cP0 := Cx hP6
 have kr0 : Keeps No w w6 := KW.out
 go_wp2_with (first
  | (refine wpList_load_all rfl 29 _ rfl A _ 29 _ rfl hA6 Tryz.underlying29 rfl Rx ?_)
  | (go_at_call 105; refine (c0 _ ).mono ?_; rintro e wx0 ⟨rfl, kx0⟩; have hA6 := kx0.heap hA6 id; have hP6 := kx0.heap hP6 id; have hBx0 : OpAt B o.bare (.slice none 0 0) wx0 := kx0.heap hB0 id; have krr0 := kr0.trans kx0)
  | (go_at_call 106; refine (copy1_any B o.bare o (.slice none 0 0) (.slice a0 an ac) _ hBx0).mono ?_; rintro e wy0 ⟨rfl, hB1, kc0⟩; have hA6 := kc0.heap hA6 (fun e => hAne e); have hP6 := kc0.heap hP6 (fun e => hPne e)))
 all_goals first
  | (go_ret
     exact ⟨ret_bool (by rw [HOK.out]; simp_all), krr0⟩)
  | skip
 have KW : Hid (Keeps No w wy0) := Hx (krr0.step kc0 fun k hk hlt => by unfold At1 at hk; omega)
 have hq0 : Hid (q0 = true) := Hx (by simp_all)
 have hL1 : Hid (Lies 4 cutCells (.slice none 0 0) (copyPart 1 o.bare o).cuts wy0) := Hx ((hL0.out.no kx0).keeps kc0 fun g hg => by simp [Value.ownBlock] at hg)
 clear kr0 krr0 kx0 kc0 cP0 hBx0
 rw [rounds_succ]
 have cP1 := Cx hP6
 have kr1 : Keeps No w wy0 := KW.out
 go_wp2_with (first
  | (refine wpList_load_all rfl 29 _ rfl A _ 29 _ rfl hA6 Tryz.underlying29 rfl Rx ?_)
  | (go_at_call 105; refine (c1 _ ).mono ?_; rintro e wx1 ⟨rfl, kx1⟩; have hA6 := kx1.heap hA6 id; have hP6 := kx1.heap hP6 id; have hBx1 : OpAt B (copyPart 1 o.bare o) (.slice none 0 0) wx1 := kx1.heap hB1 id; have krr1 := kr1.trans kx1)
  | (go_at_call 106; refine (copy3_any B (copyPart 1 o.bare o) o (.slice none 0 0) (.slice a0 an ac) _ hBx1).mono ?_; rintro e wy1 ⟨rfl, hB2, kc1⟩; have hA6 := kc1.heap hA6 (fun e => hAne e); have hP6 := kc1.heap hP6 (fun e => hPne e)))
 all_goals first
  | (go_ret
     exact ⟨ret_bool (by rw [HOK.out]; simp_all), krr1⟩)
  | skip
 have KW : Hid (Keeps No w wy1) := Hx (krr1.step kc1 fun k hk hlt => by unfold At1 at hk; omega)
 have hq1 : Hid (q1 = true) := Hx (by simp_all)
 have hL2 : Hid (Lies 4 cutCells (.slice none 0 0) (copyPart 3 (copyPart 1 o.bare o) o).cuts wy1) := Hx ((hL1.out.no kx1).keeps kc1 fun g hg => by simp [Value.ownBlock] at hg)
 clear kr1 krr1 kx1 kc1 cP1 hBx1
 rw [rounds_succ]
 have HB : Hid (OpAt B (copyPart 3 (copyPart 1 o.bare o) o) (.slice none 0 0) wy1) := Hx hB2
 go_wp2_with (first
  | (refine wpList_load_all rfl 29 _ rfl A _ 29 _ rfl hA6 Tryz.underlying29 rfl Rx ?_)
  | (refine wpList_load_all rfl 29 _ rfl B _ 29 _ rfl HB.out Tryz.underlying29 rfl Rx ?_)
  | (go_at_call 107; refine (cQ _ _ hL2.out (HL.out.no KW.out)).mono ?_; rintro e wz ⟨rfl, kz⟩))
 go_ret
 exact ⟨ret_bool (by rw [HOK.out, hrs.out, hro.out, hq0.out, hq1.out]; simp), KW.out.trans kz⟩
theorem ok4 {o : Dc.Op} (h : o.kind = 4) : o.ok = (Dc.rightStamp o.t o.id.R && Off.rightOp o.id && (partOk 4 o) && decide ((copyPart 4 o.bare o) = o)) := by
 unfold Dc.Op.ok Dc.Op.parts Dc.Op.own
 simp only [h]
 rfl
theorem right4_any (o : Dc.Op) (cv : Value) (w : World) (hE : Env w) (hL : Lies 4 cutCells cv o.cuts w) (hcz : o.cuts.length ≤ 1000000) (hk : o.kind = 4) :
  Calls Tryz.prog 66 #[opV o cv] w (ContPost o.ok w) := by
 obtain ⟨a0, an, ac, rfl⟩ : ∃ a0 an ac, cv = .slice a0 an ac := by obtain ⟨_, x, y, h, _⟩ := hL; exact ⟨_, _, _, h⟩
 have HOK := Hx (ok4 hk)
 have cS := fun w => rightStamp_any o.t o.id.R w
 have cO := fun w => rightOp_any o.id.R o.id.N w
 have cB := fun w => bare_any o (.slice a0 an ac) w
 have cQ := fun ca w h1 h2 => sameOp_any (copyPart 4 o.bare o) o ca (.slice a0 an ac) w h1 h2
 have cN := fun w => parts4_any o.kind hk w
 have hoid : (⟨o.id.R, o.id.N⟩ : Off.Bid) = o.id := rfl
 rw [hoid] at cO
 generalize o.ok = ok at HOK ⊢
 generalize Dc.rightStamp o.t o.id.R = rs at HOK cS
 generalize Off.rightOp o.id = ro at HOK cO
 generalize decide ((copyPart 4 o.bare o) = o) = eqb at HOK cQ
 clear hoid hk
 have c0 := fun w (hL : Lies 4 cutCells (.slice a0 an ac) o.cuts w) => part4_any o (.slice a0 an ac) w hL
 generalize partOk 4 o = q0 at HOK c0
 go_enter Tryz.func66, Tryz.ntmps66
 go_upto_region 1 with (fail)
 have kA : Keeps No w (w.alloc (.cells (opArr o (.slice a0 an ac)) 29)) := (Keeps.refl _ _).alloc _
 have hA := Nx w (.cells (opArr o (.slice a0 an ac)) 29)
 obtain ⟨A, eA⟩ : ∃ A, A = w.heap.size := ⟨_, rfl⟩
 rw [← eA] at hA ⊢
 generalize w.alloc (.cells (opArr o (.slice a0 an ac)) 29) = w1 at kA hA ⊢
 have EA := Hx eA
 clear eA
 have cA := Cx hA
 have hA1 := heap_lt hA
 have hNe : A ≠ w1.heap.size := by omega
 go_upto_region 4 with (first
  | (go_at_call 101; refine (cN _).mono ?_; rintro e w2 ⟨rfl, rfl⟩)
  | (go_at_call 102; refine (cS _).mono ?_; rintro e w3 ⟨rfl, k3⟩; have hA := k3.heap (heap_alloc_keep hA _) id; have cA := Cx hA)
  | (go_at_call 103; refine (cO _).mono ?_; rintro e w4 ⟨rfl, k4⟩; have hA := k4.heap hA id; have cA := Cx hA))
 all_goals first
  | (go_ret
     exact ⟨ret_bool (by rw [HOK.out]; simp_all), Kx⟩)
  | skip
 have kq : Keeps No w w4 := Kx
 have hP : w4.heap[w1.heap.size]? = some (.cells #[.int .i64 4] 204 (0, 0)) := k4.heap (k3.heap (Nx w1 _) id) id
 obtain ⟨Pb, ePb⟩ : ∃ b, b = w1.heap.size := ⟨_, rfl⟩
 rw [← ePb] at hP hNe ⊢
 have EPb := Hx ePb
 clear ePb
 have hro : Hid (ro = true) := Hx (by simp_all)
 have hrs : Hid (rs = true) := Hx (by assumption)
 go_upto_region 5 with (first
  | (refine wpList_load_all rfl 29 _ rfl A _ 29 _ rfl hA Tryz.underlying29 rfl Rx ?_)
  | (go_at_call 104; refine (cB _).mono ?_; rintro e w5 ⟨rfl, k5⟩; have hA5 := heap_alloc_keep (k5.heap hA id) (.cells zeroOp 29); have hP5 := heap_alloc_keep (k5.heap hP id) (.cells zeroOp 29); have hB5 := Nx w5 (.cells zeroOp 29))
  | (refine wpList_store_all rfl 29 _ _ rfl w5.heap.size _ _ 29 rfl rfl hB5 (by rfl) Rx (by rfl) ?_; intro w6 hB k6 hz6))
 have k5' : Keeps No w w6 := (((kq.trans k5).alloc (.cells zeroOp 29)).step k6 fun k hk hlt => by have := kq.size; have := k5.size; unfold At1 at hk; omega)
 have hA6 := k6.heap hA5 (fun e => by have := heap_lt (k5.heap hA id); unfold At1 at e; omega)
 have hP6 := k6.heap hP5 (fun e => by have := heap_lt (k5.heap hP id); unfold At1 at e; omega)
 have hAB : A < w5.heap.size := heap_lt (k5.heap hA id)
 have hPB : Pb < w5.heap.size := heap_lt (k5.heap hP id)
 have hwB : w.heap.size ≤ w5.heap.size := (kq.trans k5).size
 obtain ⟨B, eB⟩ : ∃ b, b = w5.heap.size := ⟨_, rfl⟩
 rw [← eB] at hB hAB hPB hwB ⊢
 have EB := Hx eB
 clear eB
 have hB0 : OpAt B o.bare (.slice none 0 0) w6 := hB
 have hL0 : Hid (Lies 4 cutCells (.slice none 0 0) o.bare.cuts w6) := Hx ⟨Nat.zero_le _, none, 0, rfl, Nat.le_refl _, Nat.zero_le _, fun e => absurd rfl e⟩
 have KW := Hx k5'
 have HL := Hx hL
 have HE := Hx hE
 have hAne : ¬ A = B := by omega
 have hPne : ¬ Pb = B := by omega
 clear hP5 hA5 hB5 hA hP hB k6 k5 kq k3 k4 kA hA1 cA hNe hE hL k5' hz6
 go_frame
 go_wp2
 refine wp_loop_rounds 2 ?_
 rw [rounds_succ]
 have cP0 := Cx hP6
 have kr0 : Keeps No w w6 := KW.out
 go_wp2_with (first
  | (refine wpList_load_all rfl 29 _ rfl A _ 29 _ rfl hA6 Tryz.underlying29 rfl Rx ?_)
  | (go_at_call 105; refine (c0 _ (HL.out.no kr0)).mono ?_; rintro e wx0 ⟨rfl, kx0⟩; have hA6 := kx0.heap hA6 id; have hP6 := kx0.heap hP6 id; have hBx0 : OpAt B o.bare (.slice none 0 0) wx0 := kx0.heap hB0 id; have krr0 := kr0.trans kx0)
  | (go_at_call 106; refine (copy4_any B o.bare o (.slice none 0 0) (.slice a0 an ac) _ hBx0 (HL.out.no krr0) hcz).mono ?_; rintro e wy0 ⟨rfl, cv0, hB1, hLn0, kc0⟩; have hA6 := kc0.heap hA6 (fun e => hAne e); have hP6 := kc0.heap hP6 (fun e => hPne e)))
 all_goals first
  | (go_ret
     exact ⟨ret_bool (by rw [HOK.out]; simp_all), krr0⟩)
  | skip
 have KW : Hid (Keeps No w wy0) := Hx (krr0.step kc0 fun k hk hlt => by unfold At1 at hk; omega)
 have hq0 : Hid (q0 = true) := Hx (by simp_all)
 obtain ⟨b0, bn, bc, rfl⟩ : ∃ a0 an ac, cv0 = .slice a0 an ac := by obtain ⟨_, x, y, h, _⟩ := hLn0; exact ⟨_, _, _, h⟩
 have hL1 : Hid (Lies 4 cutCells (.slice b0 bn bc) (copyPart 4 o.bare o).cuts wy0) := Hx hLn0
 clear hLn0
 clear kr0 krr0 kx0 kc0 cP0 hBx0
 rw [rounds_succ]
 have HB : Hid (OpAt B (copyPart 4 o.bare o) (.slice b0 bn bc) wy0) := Hx hB1
 go_wp2_with (first
  | (refine wpList_load_all rfl 29 _ rfl A _ 29 _ rfl hA6 Tryz.underlying29 rfl Rx ?_)
  | (refine wpList_load_all rfl 29 _ rfl B _ 29 _ rfl HB.out Tryz.underlying29 rfl Rx ?_)
  | (go_at_call 107; refine (cQ _ _ hL1.out (HL.out.no KW.out)).mono ?_; rintro e wz ⟨rfl, kz⟩))
 go_ret
 exact ⟨ret_bool (by rw [HOK.out, hrs.out, hro.out, hq0.out]; simp), KW.out.trans kz⟩
theorem ok5 {o : Dc.Op} (h : o.kind = 5) : o.ok = (Dc.rightStamp o.t o.id.R && Off.rightOp o.id && (partOk 1 o && partOk 2 o) && decide ((copyPart 2 (copyPart 1 o.bare o) o) = o)) := by
 unfold Dc.Op.ok Dc.Op.parts Dc.Op.own
 simp only [h]
 rfl
theorem right5_any (o : Dc.Op) (cv : Value) (w : World) (hE : Env w) (hL : Lies 4 cutCells cv o.cuts w) (hk : o.kind = 5) :
  Calls Tryz.prog 66 #[opV o cv] w (ContPost o.ok w) := by
 obtain ⟨a0, an, ac, rfl⟩ : ∃ a0 an ac, cv = .slice a0 an ac := by obtain ⟨_, x, y, h, _⟩ := hL; exact ⟨_, _, _, h⟩
 have HOK := Hx (ok5 hk)
 have cS := fun w => rightStamp_any o.t o.id.R w
 have cO := fun w => rightOp_any o.id.R o.id.N w
 have cB := fun w => bare_any o (.slice a0 an ac) w
 have cQ := fun ca w h1 h2 => sameOp_any (copyPart 2 (copyPart 1 o.bare o) o) o ca (.slice a0 an ac) w h1 h2
 have cN := fun w => parts5_any o.kind hk w
 have hoid : (⟨o.id.R, o.id.N⟩ : Off.Bid) = o.id := rfl
 rw [hoid] at cO
 generalize o.ok = ok at HOK ⊢
 generalize Dc.rightStamp o.t o.id.R = rs at HOK cS
 generalize Off.rightOp o.id = ro at HOK cO
 generalize decide ((copyPart 2 (copyPart 1 o.bare o) o) = o) = eqb at HOK cQ
 clear hoid hk
 have c0 := fun w  => part1_any o (.slice a0 an ac) w
 generalize partOk 1 o = q0 at HOK c0
 have c1 := fun w (hE : Env w) => part2_any o (.slice a0 an ac) w hE
 generalize partOk 2 o = q1 at HOK c1
 go_enter Tryz.func66, Tryz.ntmps66
 go_upto_region 1 with (fail)
 have kA : Keeps No w (w.alloc (.cells (opArr o (.slice a0 an ac)) 29)) := (Keeps.refl _ _).alloc _
 have hA := Nx w (.cells (opArr o (.slice a0 an ac)) 29)
 obtain ⟨A, eA⟩ : ∃ A, A = w.heap.size := ⟨_, rfl⟩
 rw [← eA] at hA ⊢
 generalize w.alloc (.cells (opArr o (.slice a0 an ac)) 29) = w1 at kA hA ⊢
 have EA := Hx eA
 clear eA
 have cA := Cx hA
 have hA1 := heap_lt hA
 have hNe : A ≠ w1.heap.size := by omega
 go_upto_region 4 with (first
  | (go_at_call 101; refine (cN _).mono ?_; rintro e w2 ⟨rfl, rfl⟩)
  | (go_at_call 102; refine (cS _).mono ?_; rintro e w3 ⟨rfl, k3⟩; have hA := k3.heap (heap_alloc_keep hA _) id; have cA := Cx hA)
  | (go_at_call 103; refine (cO _).mono ?_; rintro e w4 ⟨rfl, k4⟩; have hA := k4.heap hA id; have cA := Cx hA))
 all_goals first
  | (go_ret
     exact ⟨ret_bool (by rw [HOK.out]; simp_all), Kx⟩)
  | skip
 have kq : Keeps No w w4 := Kx
 have hP : w4.heap[w1.heap.size]? = some (.cells #[.int .i64 1, .int .i64 2] 204 (0, 0)) := k4.heap (k3.heap (Nx w1 _) id) id
 obtain ⟨Pb, ePb⟩ : ∃ b, b = w1.heap.size := ⟨_, rfl⟩
 rw [← ePb] at hP hNe ⊢
 have EPb := Hx ePb
 clear ePb
 have hro : Hid (ro = true) := Hx (by simp_all)
 have hrs : Hid (rs = true) := Hx (by assumption)
 go_upto_region 5 with (first
  | (refine wpList_load_all rfl 29 _ rfl A _ 29 _ rfl hA Tryz.underlying29 rfl Rx ?_)
  | (go_at_call 104; refine (cB _).mono ?_; rintro e w5 ⟨rfl, k5⟩; have hA5 := heap_alloc_keep (k5.heap hA id) (.cells zeroOp 29); have hP5 := heap_alloc_keep (k5.heap hP id) (.cells zeroOp 29); have hB5 := Nx w5 (.cells zeroOp 29))
  | (refine wpList_store_all rfl 29 _ _ rfl w5.heap.size _ _ 29 rfl rfl hB5 (by rfl) Rx (by rfl) ?_; intro w6 hB k6 hz6))
 have k5' : Keeps No w w6 := (((kq.trans k5).alloc (.cells zeroOp 29)).step k6 fun k hk hlt => by have := kq.size; have := k5.size; unfold At1 at hk; omega)
 have hA6 := k6.heap hA5 (fun e => by have := heap_lt (k5.heap hA id); unfold At1 at e; omega)
 have hP6 := k6.heap hP5 (fun e => by have := heap_lt (k5.heap hP id); unfold At1 at e; omega)
 have hAB : A < w5.heap.size := heap_lt (k5.heap hA id)
 have hPB : Pb < w5.heap.size := heap_lt (k5.heap hP id)
 have hwB : w.heap.size ≤ w5.heap.size := (kq.trans k5).size
 obtain ⟨B, eB⟩ : ∃ b, b = w5.heap.size := ⟨_, rfl⟩
 rw [← eB] at hB hAB hPB hwB ⊢
 have EB := Hx eB
 clear eB
 have hB0 : OpAt B o.bare (.slice none 0 0) w6 := hB
 have hL0 : Hid (Lies 4 cutCells (.slice none 0 0) o.bare.cuts w6) := Hx ⟨Nat.zero_le _, none, 0, rfl, Nat.le_refl _, Nat.zero_le _, fun e => absurd rfl e⟩
 have KW := Hx k5'
 have HL := Hx hL
 have HE := Hx hE
 have hAne : ¬ A = B := by omega
 have hPne : ¬ Pb = B := by omega
 clear hP5 hA5 hB5 hA hP hB k6 k5 kq k3 k4 kA hA1 cA hNe hE hL k5' hz6
 go_frame
 go_wp2
 refine wp_loop_rounds 3 ?_
 rw [rounds_succ]
 have cP0 := Cx hP6
 have kr0 : Keeps No w w6 := KW.out
 go_wp2_with (first
  | (refine wpList_load_all rfl 29 _ rfl A _ 29 _ rfl hA6 Tryz.underlying29 rfl Rx ?_)
  | (go_at_call 105; refine (c0 _ ).mono ?_; rintro e wx0 ⟨rfl, kx0⟩; have hA6 := kx0.heap hA6 id; have hP6 := kx0.heap hP6 id; have hBx0 : OpAt B o.bare (.slice none 0 0) wx0 := kx0.heap hB0 id; have krr0 := kr0.trans kx0)
  | (go_at_call 106; refine (copy1_any B o.bare o (.slice none 0 0) (.slice a0 an ac) _ hBx0).mono ?_; rintro e wy0 ⟨rfl, hB1, kc0⟩; have hA6 := kc0.heap hA6 (fun e => hAne e); have hP6 := kc0.heap hP6 (fun e => hPne e)))
 all_goals first
  | (go_ret
     exact ⟨ret_bool (by rw [HOK.out]; simp_all), krr0⟩)
  | skip
 have KW : Hid (Keeps No w wy0) := Hx (krr0.step kc0 fun k hk hlt => by unfold At1 at hk; omega)
 have hq0 : Hid (q0 = true) := Hx (by simp_all)
 have hL1 : Hid (Lies 4 cutCells (.slice none 0 0) (copyPart 1 o.bare o).cuts wy0) := Hx ((hL0.out.no kx0).keeps kc0 fun g hg => by simp [Value.ownBlock] at hg)
 clear kr0 krr0 kx0 kc0 cP0 hBx0
 rw [rounds_succ]
 have cP1 := Cx hP6
 have kr1 : Keeps No w wy0 := KW.out
 go_wp2_with (first
  | (refine wpList_load_all rfl 29 _ rfl A _ 29 _ rfl hA6 Tryz.underlying29 rfl Rx ?_)
  | (go_at_call 105; refine (c1 _ (HE.out.no kr1)).mono ?_; rintro e wx1 ⟨rfl, kx1⟩; have hA6 := kx1.heap hA6 id; have hP6 := kx1.heap hP6 id; have hBx1 : OpAt B (copyPart 1 o.bare o) (.slice none 0 0) wx1 := kx1.heap hB1 id; have krr1 := kr1.trans kx1)
  | (go_at_call 106; refine (copy2_any B (copyPart 1 o.bare o) o (.slice none 0 0) (.slice a0 an ac) _ hBx1).mono ?_; rintro e wy1 ⟨rfl, hB2, kc1⟩; have hA6 := kc1.heap hA6 (fun e => hAne e); have hP6 := kc1.heap hP6 (fun e => hPne e)))
 all_goals first
  | (go_ret
     exact ⟨ret_bool (by rw [HOK.out]; simp_all), krr1⟩)
  | skip
 have KW : Hid (Keeps No w wy1) := Hx (krr1.step kc1 fun k hk hlt => by unfold At1 at hk; omega)
 have hq1 : Hid (q1 = true) := Hx (by simp_all)
 have hL2 : Hid (Lies 4 cutCells (.slice none 0 0) (copyPart 2 (copyPart 1 o.bare o) o).cuts wy1) := Hx ((hL1.out.no kx1).keeps kc1 fun g hg => by simp [Value.ownBlock] at hg)
 clear kr1 krr1 kx1 kc1 cP1 hBx1
 rw [rounds_succ]
 have HB : Hid (OpAt B (copyPart 2 (copyPart 1 o.bare o) o) (.slice none 0 0) wy1) := Hx hB2
 go_wp2_with (first
  | (refine wpList_load_all rfl 29 _ rfl A _ 29 _ rfl hA6 Tryz.underlying29 rfl Rx ?_)
  | (refine wpList_load_all rfl 29 _ rfl B _ 29 _ rfl HB.out Tryz.underlying29 rfl Rx ?_)
  | (go_at_call 107; refine (cQ _ _ hL2.out (HL.out.no KW.out)).mono ?_; rintro e wz ⟨rfl, kz⟩))
 go_ret
 exact ⟨ret_bool (by rw [HOK.out, hrs.out, hro.out, hq0.out, hq1.out]; simp), KW.out.trans kz⟩
theorem ok6 {o : Dc.Op} (h : o.kind = 6) : o.ok = (Dc.rightStamp o.t o.id.R && Off.rightOp o.id && (partOk 0 o && partOk 5 o) && decide ((copyPart 5 (copyPart 0 o.bare o) o) = o)) := by
 unfold Dc.Op.ok Dc.Op.parts Dc.Op.own
 simp only [h]
 have e : (partOk 0 o && partOk 5 o) = Off.rightOp o.block := Bool.and_true _
 rw [e]
 rfl
theorem right6_any (o : Dc.Op) (cv : Value) (w : World) (hE : Env w) (hL : Lies 4 cutCells cv o.cuts w) (hk : o.kind = 6) :
  Calls Tryz.prog 66 #[opV o cv] w (ContPost o.ok w) := by
 obtain ⟨a0, an, ac, rfl⟩ : ∃ a0 an ac, cv = .slice a0 an ac := by obtain ⟨_, x, y, h, _⟩ := hL; exact ⟨_, _, _, h⟩
 have HOK := Hx (ok6 hk)
 have cS := fun w => rightStamp_any o.t o.id.R w
 have cO := fun w => rightOp_any o.id.R o.id.N w
 have cB := fun w => bare_any o (.slice a0 an ac) w
 have cQ := fun ca w h1 h2 => sameOp_any (copyPart 5 (copyPart 0 o.bare o) o) o ca (.slice a0 an ac) w h1 h2
 have cN := fun w => parts6_any o.kind hk w
 have hoid : (⟨o.id.R, o.id.N⟩ : Off.Bid) = o.id := rfl
 rw [hoid] at cO
 generalize o.ok = ok at HOK ⊢
 generalize Dc.rightStamp o.t o.id.R = rs at HOK cS
 generalize Off.rightOp o.id = ro at HOK cO
 generalize decide ((copyPart 5 (copyPart 0 o.bare o) o) = o) = eqb at HOK cQ
 clear hoid hk
 have c0 := fun w  => part0_any o (.slice a0 an ac) w
 generalize partOk 0 o = q0 at HOK c0
 have c1 := fun w  => part5_any o (.slice a0 an ac) w
 generalize partOk 5 o = q1 at HOK c1
 go_enter Tryz.func66, Tryz.ntmps66
 go_upto_region 1 with (fail)
 have kA : Keeps No w (w.alloc (.cells (opArr o (.slice a0 an ac)) 29)) := (Keeps.refl _ _).alloc _
 have hA := Nx w (.cells (opArr o (.slice a0 an ac)) 29)
 obtain ⟨A, eA⟩ : ∃ A, A = w.heap.size := ⟨_, rfl⟩
 rw [← eA] at hA ⊢
 generalize w.alloc (.cells (opArr o (.slice a0 an ac)) 29) = w1 at kA hA ⊢
 have EA := Hx eA
 clear eA
 have cA := Cx hA
 have hA1 := heap_lt hA
 have hNe : A ≠ w1.heap.size := by omega
 go_upto_region 4 with (first
  | (go_at_call 101; refine (cN _).mono ?_; rintro e w2 ⟨rfl, rfl⟩)
  | (go_at_call 102; refine (cS _).mono ?_; rintro e w3 ⟨rfl, k3⟩; have hA := k3.heap (heap_alloc_keep hA _) id; have cA := Cx hA)
  | (go_at_call 103; refine (cO _).mono ?_; rintro e w4 ⟨rfl, k4⟩; have hA := k4.heap hA id; have cA := Cx hA))
 all_goals first
  | (go_ret
     exact ⟨ret_bool (by rw [HOK.out]; simp_all), Kx⟩)
  | skip
 have kq : Keeps No w w4 := Kx
 have hP : w4.heap[w1.heap.size]? = some (.cells #[.int .i64 0, .int .i64 5] 204 (0, 0)) := k4.heap (k3.heap (Nx w1 _) id) id
 obtain ⟨Pb, ePb⟩ : ∃ b, b = w1.heap.size := ⟨_, rfl⟩
 rw [← ePb] at hP hNe ⊢
 have EPb := Hx ePb
 clear ePb
 have hro : Hid (ro = true) := Hx (by simp_all)
 have hrs : Hid (rs = true) := Hx (by assumption)
 go_upto_region 5 with (first
  | (refine wpList_load_all rfl 29 _ rfl A _ 29 _ rfl hA Tryz.underlying29 rfl Rx ?_)
  | (go_at_call 104; refine (cB _).mono ?_; rintro e w5 ⟨rfl, k5⟩; have hA5 := heap_alloc_keep (k5.heap hA id) (.cells zeroOp 29); have hP5 := heap_alloc_keep (k5.heap hP id) (.cells zeroOp 29); have hB5 := Nx w5 (.cells zeroOp 29))
  | (refine wpList_store_all rfl 29 _ _ rfl w5.heap.size _ _ 29 rfl rfl hB5 (by rfl) Rx (by rfl) ?_; intro w6 hB k6 hz6))
 have k5' : Keeps No w w6 := (((kq.trans k5).alloc (.cells zeroOp 29)).step k6 fun k hk hlt => by have := kq.size; have := k5.size; unfold At1 at hk; omega)
 have hA6 := k6.heap hA5 (fun e => by have := heap_lt (k5.heap hA id); unfold At1 at e; omega)
 have hP6 := k6.heap hP5 (fun e => by have := heap_lt (k5.heap hP id); unfold At1 at e; omega)
 have hAB : A < w5.heap.size := heap_lt (k5.heap hA id)
 have hPB : Pb < w5.heap.size := heap_lt (k5.heap hP id)
 have hwB : w.heap.size ≤ w5.heap.size := (kq.trans k5).size
 obtain ⟨B, eB⟩ : ∃ b, b = w5.heap.size := ⟨_, rfl⟩
 rw [← eB] at hB hAB hPB hwB ⊢
 have EB := Hx eB
 clear eB
 have hB0 : OpAt B o.bare (.slice none 0 0) w6 := hB
 have hL0 : Hid (Lies 4 cutCells (.slice none 0 0) o.bare.cuts w6) := Hx ⟨Nat.zero_le _, none, 0, rfl, Nat.le_refl _, Nat.zero_le _, fun e => absurd rfl e⟩
 have KW := Hx k5'
 have HL := Hx hL
 have HE := Hx hE
 have hAne : ¬ A = B := by omega
 have hPne : ¬ Pb = B := by omega
 clear hP5 hA5 hB5 hA hP hB k6 k5 kq k3 k4 kA hA1 cA hNe hE hL k5' hz6
 go_frame
 go_wp2
 refine wp_loop_rounds 3 ?_
 rw [rounds_succ]
 have cP0 := Cx hP6
 have kr0 : Keeps No w w6 := KW.out
 go_wp2_with (first
  | (refine wpList_load_all rfl 29 _ rfl A _ 29 _ rfl hA6 Tryz.underlying29 rfl Rx ?_)
  | (go_at_call 105; refine (c0 _ ).mono ?_; rintro e wx0 ⟨rfl, kx0⟩; have hA6 := kx0.heap hA6 id; have hP6 := kx0.heap hP6 id; have hBx0 : OpAt B o.bare (.slice none 0 0) wx0 := kx0.heap hB0 id; have krr0 := kr0.trans kx0)
  | (go_at_call 106; refine (copy0_any B o.bare o (.slice none 0 0) (.slice a0 an ac) _ hBx0).mono ?_; rintro e wy0 ⟨rfl, hB1, kc0⟩; have hA6 := kc0.heap hA6 (fun e => hAne e); have hP6 := kc0.heap hP6 (fun e => hPne e)))
 all_goals first
  | (go_ret
     exact ⟨ret_bool (by rw [HOK.out]; simp_all), krr0⟩)
  | skip
 have KW : Hid (Keeps No w wy0) := Hx (krr0.step kc0 fun k hk hlt => by unfold At1 at hk; omega)
 have hq0 : Hid (q0 = true) := Hx (by simp_all)
 have hL1 : Hid (Lies 4 cutCells (.slice none 0 0) (copyPart 0 o.bare o).cuts wy0) := Hx ((hL0.out.no kx0).keeps kc0 fun g hg => by simp [Value.ownBlock] at hg)
 clear kr0 krr0 kx0 kc0 cP0 hBx0
 rw [rounds_succ]
 have cP1 := Cx hP6
 have kr1 : Keeps No w wy0 := KW.out
 go_wp2_with (first
  | (refine wpList_load_all rfl 29 _ rfl A _ 29 _ rfl hA6 Tryz.underlying29 rfl Rx ?_)
  | (go_at_call 105; refine (c1 _ ).mono ?_; rintro e wx1 ⟨rfl, kx1⟩; have hA6 := kx1.heap hA6 id; have hP6 := kx1.heap hP6 id; have hBx1 : OpAt B (copyPart 0 o.bare o) (.slice none 0 0) wx1 := kx1.heap hB1 id; have krr1 := kr1.trans kx1)
  | (go_at_call 106; refine (copy5_any B (copyPart 0 o.bare o) o (.slice none 0 0) (.slice a0 an ac) _ hBx1).mono ?_; rintro e wy1 ⟨rfl, hB2, kc1⟩; have hA6 := kc1.heap hA6 (fun e => hAne e); have hP6 := kc1.heap hP6 (fun e => hPne e)))
 all_goals first
  | (go_ret
     exact ⟨ret_bool (by rw [HOK.out]; simp_all), krr1⟩)
  | skip
 have KW : Hid (Keeps No w wy1) := Hx (krr1.step kc1 fun k hk hlt => by unfold At1 at hk; omega)
 have hq1 : Hid (q1 = true) := Hx (by simp_all)
 have hL2 : Hid (Lies 4 cutCells (.slice none 0 0) (copyPart 5 (copyPart 0 o.bare o) o).cuts wy1) := Hx ((hL1.out.no kx1).keeps kc1 fun g hg => by simp [Value.ownBlock] at hg)
 clear kr1 krr1 kx1 kc1 cP1 hBx1
 rw [rounds_succ]
 have HB : Hid (OpAt B (copyPart 5 (copyPart 0 o.bare o) o) (.slice none 0 0) wy1) := Hx hB2
 go_wp2_with (first
  | (refine wpList_load_all rfl 29 _ rfl A _ 29 _ rfl hA6 Tryz.underlying29 rfl Rx ?_)
  | (refine wpList_load_all rfl 29 _ rfl B _ 29 _ rfl HB.out Tryz.underlying29 rfl Rx ?_)
  | (go_at_call 107; refine (cQ _ _ hL2.out (HL.out.no KW.out)).mono ?_; rintro e wz ⟨rfl, kz⟩))
 go_ret
 exact ⟨ret_bool (by rw [HOK.out, hrs.out, hro.out, hq0.out, hq1.out]; simp), KW.out.trans kz⟩
theorem okOther {o : Dc.Op} (h1 : o.kind ≠ 1) (h2 : o.kind ≠ 2) (h3 : o.kind ≠ 3) (h4 : o.kind ≠ 4) (h5 : o.kind ≠ 5) (h6 : o.kind ≠ 6) : o.ok = false := by
 unfold Dc.Op.ok Dc.Op.parts
 rw [if_neg h1, if_neg h2, if_neg h3, if_neg h4, if_neg h5, if_neg h6]
 simp
theorem rightOther_any (o : Dc.Op) (cv : Value) (w : World) (h1 : o.kind ≠ 1) (h2 : o.kind ≠ 2) (h3 : o.kind ≠ 3) (h4 : o.kind ≠ 4) (h5 : o.kind ≠ 5) (h6 : o.kind ≠ 6) :
  Calls Tryz.prog 66 #[opV o cv] w (ContPost o.ok w) := by
 have HOK := Hx (okOther h1 h2 h3 h4 h5 h6)
 have cN : ∀ w, Calls Tryz.prog 101 #[.int .i64 o.kind] w fun e w' => e = .returned (.slice none 0 0) ∧ w = w' := by
  intro w
  generalize o.kind = kd at *
  have e1 : (kd == 1) = false := by simp [h1]
  have e2 : (kd == 2) = false := by simp [h2]
  have e3 : (kd == 3) = false := by simp [h3]
  have e4 : (kd == 4) = false := by simp [h4]
  have e5 : (kd == 5) = false := by simp [h5]
  have e6 : (kd == 6) = false := by simp [h6]
  clear HOK h1 h2 h3 h4 h5 h6
  go_enter Tryz.func101, Tryz.ntmps101
  go_wp2
  go_ret
  exact ⟨rfl, rfl⟩
 generalize o.ok = ok at HOK ⊢
 clear h1 h2 h3 h4 h5 h6
 go_enter Tryz.func66, Tryz.ntmps66
 go_wp2_with (go_at_call 101; refine (cN _).mono ?_; rintro e w2 ⟨rfl, rfl⟩)
 go_ret
 exact ⟨ret_bool HOK.out.symm, Kx⟩
theorem right_any (o : Dc.Op) (cv : Value) (w : World) (hE : Env w) (hL : Lies 4 cutCells cv o.cuts w) (hsz : o.text.length ≤ 1000000000) (hcz : o.cuts.length ≤ 1000000) :
  Calls Tryz.prog 66 #[opV o cv] w (ContPost o.ok w) := by
 by_cases h1 : o.kind = 1
 ·exact right1_any o cv w hE hL h1
 by_cases h2 : o.kind = 2
 ·exact right2_any o cv w hE hL h2
 by_cases h3 : o.kind = 3
 ·exact right3_any o cv w hE hL hsz h3
 by_cases h4 : o.kind = 4
 ·exact right4_any o cv w hE hL hcz h4
 by_cases h5 : o.kind = 5
 ·exact right5_any o cv w hE hL h5
 by_cases h6 : o.kind = 6
 ·exact right6_any o cv w hE hL h6
 exact rightOther_any o cv w h1 h2 h3 h4 h5 h6
end Go.Proofs.YthfjefcljeamgaaGreatDoor
