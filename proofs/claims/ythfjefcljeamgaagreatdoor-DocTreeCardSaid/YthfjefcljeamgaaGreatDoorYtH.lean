/- A text that many write at once: a new one. -/
import Derived.Test.YthfjefcljeamgaaGreatDoorYtG
namespace Go.Proofs.YthfjefcljeamgaaGreatDoor
set_option maxRecDepth 100000
set_option maxHeartbeats 4000000
open Go.RowKit
attribute [local go_sem ↓] Go.wp_at_zero Go.wp_at_succ
def U2(w:World)(e:Ending)(w':World):Prop:=
 ∃b,e= .returned (.pointer (some ⟨b,0,none⟩))∧Dx (fun g=>w.heap.size≤g) b Dc.YT.new w'∧Aa No w w'
theorem F9{w w':World}{b br bn K:Nat}(hb:w'.heap[b]? =some (.cells #[.pointer (some ⟨br,0,none⟩),.map (some bn)] 226 (0,0)))
  (hr:w'.heap[br]? =some (.cells #[.slice none 0 0] 283 (0,0)))(hk:w'.heap[K]? =some (.cells (Fz .z (.slice none 0 0) (.slice none 0 0)) 331 (0,0)))
  (hm:A8 CE GQ bn (Db (fun _=>none) .z (some K)) w')(gb:w.heap.size≤b)(gr:w.heap.size≤br)(gk:w.heap.size≤K)(gn:w.heap.size≤bn):
  Dx (fun g=>w.heap.size≤g) b Dc.YT.new w':=by
 have e1:br≠b:=EM hr hb (by decide)
 have e2:bn≠b:=AA hm hb
 have e3:bn≠br:=AA hm hr
 have e4:K≠b:=EM hk hb (by decide)
 have e5:K≠br:=EM hk hr (by decide)
 have e6:bn≠K:=AA hm hk
 refine⟨fun g=>if g=b then some .self else if g=br then some .row else if g=bn then some .nmap else if g=K then some (.node .z)else none,br,bn,_,fun g hg=>?_,hb,by simp,?_,by simp[e2,e3],hm,fun c=>?_,fun c k n h1 h2=>?_⟩
 ·simp only at hg
  by_cases q1:g=b
  ·rw[q1];exact⟨gb,Ao hb⟩
  ·by_cases q2:g=br
   ·rw[q2];exact⟨gr,Ao hr⟩
   ·by_cases q3:g=bn
    ·rw[q3];exact⟨gn,hm.lt⟩
    ·by_cases q4:g=K
     ·rw[q4];exact⟨gk,Ao hk⟩
     ·simp[q1,q2,q3,q4]at hg
 ·exact⟨_,hr,Aq.nil,by simp[e1],fun g hg=>by cases hg⟩
 ·unfold Dc.YT.new Db
  simp only
  split<;>rfl
 ·unfold Db at h1
  unfold Dc.YT.new at h2
  simp only at h1 h2
  by_cases q:c= .z
  ·rw[Ak q]at h1 h2
   cases h1;cases h2
   exact⟨by simp[q,e4,e5,Ne.symm e6],_,_,hk,Aq.nil,Aq.nil,fun _ e=>(by cases e),fun _ e=>(by cases e)⟩
  ·rw[Ae q]at h1;cases h1
theorem Ub{w:World}(hE:Env w):Calls Tryz.prog 161 #[] w (U2 w):=by
 go_enter Tryz.func161,Tryz.ntmps161
 go_upto_region 1 with(fail)
 have hww:w.heap.size≤w.drew.heap.size:=Ac _
 have kw0:Aa No w w.drew:=(Aa.refl No w).drew
 have HSA:Hid (∀W:World,Aa No w W→W.cell? ⟨2,0,none⟩=some (.int .i64 0)∧W.cell? ⟨2,1,none⟩=some (.int .i64 0)∧W.cell? ⟨2,2,none⟩=some (.int .i64 0)):=Hx fun W k=>
  ⟨(hE.no k).start0,(hE.no k).start1,(hE.no k).start2⟩
 refine wp_region_held_drew (S:=fun W=>W.cell? ⟨2,0,none⟩=some (.int .i64 0)∧W.cell? ⟨2,1,none⟩=some (.int .i64 0)∧W.cell? ⟨2,2,none⟩=some (.int .i64 0)) Rx (HSA.out _ kw0) (fun HS0=>?_)
 generalize w.drew=W0 at HS0 hww kw0⊢
 refine Tx 2 ?_ ?_ ?_
 rotate_left
 focus
  intro wH hSw
  try simp only[Gx]
  try dsimp only at hSw
  go_simp
  try with_reducible rfl
 try simp only[Gx,Act.put,Sx]
 refine Tx 3 ?_ ?_ ?_
 rotate_left
 focus
  intro wH hSw
  try simp only[Gx]
  try dsimp only at hSw
  go_simp
  try with_reducible rfl
 try simp only[Gx,Act.put,Sx]
 refine wpAnyH_ready (rs:=[0,1,4]) Rx (by simp) ?_
 refine AllReadyH.cons rfl (fun K hK=>?_) ?_
 try simp only[Gx]at hK⊢
 focus
  go_simp
  go_at_call 219
  refine(EV _).mono ?_
  rintro e Wx ⟨rfl,rfl⟩
  have kw1:Aa No w (W0.alloc (.cells #[.slice none 0 0] 283)):=kw0.alloc _
  have hr1:=Nx W0 (.cells #[.slice none 0 0] 283)
  have gbr1:=kw0.size
  refine hK.out _ (W0.alloc (.cells #[.slice none 0 0] 283)) (HSA.out _ kw1) (fun HS1=>?_)
  try simp only[Act.put,Sx]
  obtain⟨br1,ebr1⟩:∃x,x=W0.heap.size:=⟨_,rfl⟩
  rw[←ebr1]at hr1 gbr1⊢
  generalize W0.alloc (.cells #[.slice none 0 0] 283)=W1 at kw1 hr1 HS1⊢
  clear hK ebr1
  refine wpAnyH_ready (rs:=[1,4]) Rx (by simp) ?_
  refine AllReadyH.cons rfl (fun K hK=>?_) ?_
  try simp only[Gx]at hK⊢
  focus
   go_simp
   have kw2:Aa No w (W1.alloc (.map #[] 0)):=kw1.alloc _
   have hn2:A8 CE GQ W1.heap.size (fun _=>none) (W1.alloc (.map #[] 0)):=A8.new _
   have gbn2:=kw1.size
   have hr2x:=Ab hr1 (.map #[] 0)
   refine hK.out _ (W1.alloc (.map #[] 0)) (HSA.out _ kw2) (fun HS2=>?_)
   try simp only[Act.put,Sx]
   obtain⟨bn2,ebn2⟩:∃x,x=W1.heap.size:=⟨_,rfl⟩
   rw[←ebn2]at hn2 gbn2⊢
   generalize W1.alloc (.map #[] 0)=W2 at kw2 hn2 hr2x HS2⊢
   clear hK ebn2
   refine wpAnyH_ready (rs:=[4]) Rx (by simp) ?_
   refine AllReadyH.cons rfl (fun K hK=>?_) ?_
   try simp only[Gx]at hK⊢
   focus
    go_simp
    have kw3:Aa No w (W2.alloc (.cells #[.int .i64 0,.int .i64 0,.int .i64 0,.slice none 0 0,.slice none 0 0] 331)):=kw2.alloc _
    have hK3:=Nx W2 (.cells #[.int .i64 0,.int .i64 0,.int .i64 0,.slice none 0 0,.slice none 0 0] 331)
    have gK3:=kw2.size
    have hn3x:=hn2.alloc (.cells #[.int .i64 0,.int .i64 0,.int .i64 0,.slice none 0 0,.slice none 0 0] 331)
    have hr3x:=Ab hr2x (.cells #[.int .i64 0,.int .i64 0,.int .i64 0,.slice none 0 0,.slice none 0 0] 331)
    refine hK.out _ (W2.alloc (.cells #[.int .i64 0,.int .i64 0,.int .i64 0,.slice none 0 0,.slice none 0 0] 331)) (HSA.out _ kw3) (fun HS3=>?_)
    try simp only[Act.put,Sx]
    obtain⟨K3,eK3⟩:∃x,x=W2.heap.size:=⟨_,rfl⟩
    rw[←eK3]at hK3 gK3⊢
    generalize W2.alloc (.cells #[.int .i64 0,.int .i64 0,.int .i64 0,.slice none 0 0,.slice none 0 0] 331)=W3 at kw3 hK3 hn3x hr3x HS3⊢
    clear hK eK3
    refine wpAnyH_ready (rs:=[5]) Rx (by simp) ?_
    refine AllReadyH.cons rfl (fun K hK=>?_) ?_
    try simp only[Gx]at hK⊢
    focus
     obtain⟨W4,hrun0,hn4,ku,hs⟩:=hn3x.put Eb Tryz.underlying224 .z K3
     have hrun:(Instr.mapUpdate 224 (.map (some bn2)) (.agg #[.int .i64 0,.int .i64 0,.int .i64 0]) (.pointer (some ⟨K3,0,none⟩))).run Tryz.prog W3= .ok () W4:=hrun0
     clear hs hrun0
     have kw4:Aa No w W4:=kw3.step ku fun y hy hl=>by unfold At1 at hy;omega
     have hK4x:=ku.heap hK3 (Ne.symm (AA hn3x hK3))
     have hr4x:=ku.heap hr3x (Ne.symm (AA hn3x hr3x))
     go_simp
     refine hK.out _ _ (HSA.out _ kw4) (fun HS4=>?_)
     try simp only[Act.put,Sx]
     clear hK hrun
     refine Tx 6 ?_ ?_ ?_
     rotate_left
     focus
      intro wH hSw
      try simp only[Gx]
      try dsimp only at hSw
      go_simp
      try with_reducible rfl
     try simp only[Gx,Act.put,Sx]
     refine Tx 7 ?_ ?_ ?_
     rotate_left
     focus
      intro wH hSw
      try simp only[Gx]
      try dsimp only at hSw
      go_simp
      try with_reducible rfl
     try simp only[Gx,Act.put,Sx]
     refine wpAnyH_ready (rs:=[8]) Rx (by simp) ?_
     refine AllReadyH.cons rfl (fun K hK=>?_) ?_
     try simp only[Gx]at hK⊢
     focus
      go_simp
      have kw5:Aa No w (W4.alloc (.cells #[.pointer (some ⟨br1,0,none⟩),.map (some bn2)] 226)):=kw4.alloc _
      have hb5:=Nx W4 (.cells #[.pointer (some ⟨br1,0,none⟩),.map (some bn2)] 226)
      have gb5:=kw4.size
      have hn5x:=hn4.alloc (.cells #[.pointer (some ⟨br1,0,none⟩),.map (some bn2)] 226)
      have hK5x:=Ab hK4x (.cells #[.pointer (some ⟨br1,0,none⟩),.map (some bn2)] 226)
      have hr5x:=Ab hr4x (.cells #[.pointer (some ⟨br1,0,none⟩),.map (some bn2)] 226)
      refine hK.out _ (W4.alloc (.cells #[.pointer (some ⟨br1,0,none⟩),.map (some bn2)] 226)) (HSA.out _ kw5) (fun HS5=>?_)
      try simp only[Act.put,Sx]
      obtain⟨b5,eb5⟩:∃x,x=W4.heap.size:=⟨_,rfl⟩
      rw[←eb5]at hb5 gb5⊢
      generalize W4.alloc (.cells #[.pointer (some ⟨br1,0,none⟩),.map (some bn2)] 226)=W5 at kw5 hb5 hn5x hK5x hr5x HS5⊢
      clear hK eb5
      refine Tx 9 ?_ ?_ ?_
      rotate_left
      focus
       intro wH hSw
       try simp only[Gx]
       try dsimp only at hSw
       go_simp
       try with_reducible rfl
      try simp only[Gx,Act.put,Sx]
      refine wpAnyH_done Rx ?_ _
      go_wp2_with fail
      go_ret
      exact⟨_,rfl,F9 hb5 hr5x hK5x hn5x gb5 gbr1 gK3 gbn2,kw5⟩
     exact AllReadyH.nil
    exact AllReadyH.nil
   exact AllReadyH.nil
  refine AllReadyH.cons rfl (fun K hK=>?_) ?_
  try simp only[Gx]at hK⊢
  focus
   go_simp
   have kw6:Aa No w (W1.alloc (.cells #[.int .i64 0,.int .i64 0,.int .i64 0,.slice none 0 0,.slice none 0 0] 331)):=kw1.alloc _
   have hK6:=Nx W1 (.cells #[.int .i64 0,.int .i64 0,.int .i64 0,.slice none 0 0,.slice none 0 0] 331)
   have gK6:=kw1.size
   have hr6x:=Ab hr1 (.cells #[.int .i64 0,.int .i64 0,.int .i64 0,.slice none 0 0,.slice none 0 0] 331)
   refine hK.out _ (W1.alloc (.cells #[.int .i64 0,.int .i64 0,.int .i64 0,.slice none 0 0,.slice none 0 0] 331)) (HSA.out _ kw6) (fun HS6=>?_)
   try simp only[Act.put,Sx]
   obtain⟨K6,eK6⟩:∃x,x=W1.heap.size:=⟨_,rfl⟩
   rw[←eK6]at hK6 gK6⊢
   generalize W1.alloc (.cells #[.int .i64 0,.int .i64 0,.int .i64 0,.slice none 0 0,.slice none 0 0] 331)=W6 at kw6 hK6 hr6x HS6⊢
   clear hK eK6
   refine wpAnyH_ready (rs:=[1]) Rx (by simp) ?_
   refine AllReadyH.cons rfl (fun K hK=>?_) ?_
   try simp only[Gx]at hK⊢
   focus
    go_simp
    have kw7:Aa No w (W6.alloc (.map #[] 0)):=kw6.alloc _
    have hn7:A8 CE GQ W6.heap.size (fun _=>none) (W6.alloc (.map #[] 0)):=A8.new _
    have gbn7:=kw6.size
    have hK7x:=Ab hK6 (.map #[] 0)
    have hr7x:=Ab hr6x (.map #[] 0)
    refine hK.out _ (W6.alloc (.map #[] 0)) (HSA.out _ kw7) (fun HS7=>?_)
    try simp only[Act.put,Sx]
    obtain⟨bn7,ebn7⟩:∃x,x=W6.heap.size:=⟨_,rfl⟩
    rw[←ebn7]at hn7 gbn7⊢
    generalize W6.alloc (.map #[] 0)=W7 at kw7 hn7 hK7x hr7x HS7⊢
    clear hK ebn7
    refine wpAnyH_ready (rs:=[5]) Rx (by simp) ?_
    refine AllReadyH.cons rfl (fun K hK=>?_) ?_
    try simp only[Gx]at hK⊢
    focus
     obtain⟨W8,hrun0,hn8,ku,hs⟩:=hn7.put Eb Tryz.underlying224 .z K6
     have hrun:(Instr.mapUpdate 224 (.map (some bn7)) (.agg #[.int .i64 0,.int .i64 0,.int .i64 0]) (.pointer (some ⟨K6,0,none⟩))).run Tryz.prog W7= .ok () W8:=hrun0
     clear hs hrun0
     have kw8:Aa No w W8:=kw7.step ku fun y hy hl=>by unfold At1 at hy;omega
     have hK8x:=ku.heap hK7x (Ne.symm (AA hn7 hK7x))
     have hr8x:=ku.heap hr7x (Ne.symm (AA hn7 hr7x))
     go_simp
     refine hK.out _ _ (HSA.out _ kw8) (fun HS8=>?_)
     try simp only[Act.put,Sx]
     clear hK hrun
     refine Tx 6 ?_ ?_ ?_
     rotate_left
     focus
      intro wH hSw
      try simp only[Gx]
      try dsimp only at hSw
      go_simp
      try with_reducible rfl
     try simp only[Gx,Act.put,Sx]
     refine Tx 7 ?_ ?_ ?_
     rotate_left
     focus
      intro wH hSw
      try simp only[Gx]
      try dsimp only at hSw
      go_simp
      try with_reducible rfl
     try simp only[Gx,Act.put,Sx]
     refine wpAnyH_ready (rs:=[8]) Rx (by simp) ?_
     refine AllReadyH.cons rfl (fun K hK=>?_) ?_
     try simp only[Gx]at hK⊢
     focus
      go_simp
      have kw9:Aa No w (W8.alloc (.cells #[.pointer (some ⟨br1,0,none⟩),.map (some bn7)] 226)):=kw8.alloc _
      have hb9:=Nx W8 (.cells #[.pointer (some ⟨br1,0,none⟩),.map (some bn7)] 226)
      have gb9:=kw8.size
      have hn9x:=hn8.alloc (.cells #[.pointer (some ⟨br1,0,none⟩),.map (some bn7)] 226)
      have hK9x:=Ab hK8x (.cells #[.pointer (some ⟨br1,0,none⟩),.map (some bn7)] 226)
      have hr9x:=Ab hr8x (.cells #[.pointer (some ⟨br1,0,none⟩),.map (some bn7)] 226)
      refine hK.out _ (W8.alloc (.cells #[.pointer (some ⟨br1,0,none⟩),.map (some bn7)] 226)) (HSA.out _ kw9) (fun HS9=>?_)
      try simp only[Act.put,Sx]
      obtain⟨b9,eb9⟩:∃x,x=W8.heap.size:=⟨_,rfl⟩
      rw[←eb9]at hb9 gb9⊢
      generalize W8.alloc (.cells #[.pointer (some ⟨br1,0,none⟩),.map (some bn7)] 226)=W9 at kw9 hb9 hn9x hK9x hr9x HS9⊢
      clear hK eb9
      refine Tx 9 ?_ ?_ ?_
      rotate_left
      focus
       intro wH hSw
       try simp only[Gx]
       try dsimp only at hSw
       go_simp
       try with_reducible rfl
      try simp only[Gx,Act.put,Sx]
      refine wpAnyH_done Rx ?_ _
      go_wp2_with fail
      go_ret
      exact⟨_,rfl,F9 hb9 hr9x hK9x hn9x gb9 gbr1 gK6 gbn7,kw9⟩
     exact AllReadyH.nil
    exact AllReadyH.nil
   exact AllReadyH.nil
  exact AllReadyH.nil
 refine AllReadyH.cons rfl (fun K hK=>?_) ?_
 try simp only[Gx]at hK⊢
 focus
  go_simp
  have kw10:Aa No w (W0.alloc (.map #[] 0)):=kw0.alloc _
  have hn10:A8 CE GQ W0.heap.size (fun _=>none) (W0.alloc (.map #[] 0)):=A8.new _
  have gbn10:=kw0.size
  refine hK.out _ (W0.alloc (.map #[] 0)) (HSA.out _ kw10) (fun HS10=>?_)
  try simp only[Act.put,Sx]
  obtain⟨bn10,ebn10⟩:∃x,x=W0.heap.size:=⟨_,rfl⟩
  rw[←ebn10]at hn10 gbn10⊢
  generalize W0.alloc (.map #[] 0)=W10 at kw10 hn10 HS10⊢
  clear hK ebn10
  refine wpAnyH_ready (rs:=[0,4]) Rx (by simp) ?_
  refine AllReadyH.cons rfl (fun K hK=>?_) ?_
  try simp only[Gx]at hK⊢
  focus
   go_simp
   go_at_call 219
   refine(EV _).mono ?_
   rintro e Wx ⟨rfl,rfl⟩
   have kw11:Aa No w (W10.alloc (.cells #[.slice none 0 0] 283)):=kw10.alloc _
   have hr11:=Nx W10 (.cells #[.slice none 0 0] 283)
   have gbr11:=kw10.size
   have hn11x:=hn10.alloc (.cells #[.slice none 0 0] 283)
   refine hK.out _ (W10.alloc (.cells #[.slice none 0 0] 283)) (HSA.out _ kw11) (fun HS11=>?_)
   try simp only[Act.put,Sx]
   obtain⟨br11,ebr11⟩:∃x,x=W10.heap.size:=⟨_,rfl⟩
   rw[←ebr11]at hr11 gbr11⊢
   generalize W10.alloc (.cells #[.slice none 0 0] 283)=W11 at kw11 hr11 hn11x HS11⊢
   clear hK ebr11
   refine wpAnyH_ready (rs:=[4]) Rx (by simp) ?_
   refine AllReadyH.cons rfl (fun K hK=>?_) ?_
   try simp only[Gx]at hK⊢
   focus
    go_simp
    have kw12:Aa No w (W11.alloc (.cells #[.int .i64 0,.int .i64 0,.int .i64 0,.slice none 0 0,.slice none 0 0] 331)):=kw11.alloc _
    have hK12:=Nx W11 (.cells #[.int .i64 0,.int .i64 0,.int .i64 0,.slice none 0 0,.slice none 0 0] 331)
    have gK12:=kw11.size
    have hr12x:=Ab hr11 (.cells #[.int .i64 0,.int .i64 0,.int .i64 0,.slice none 0 0,.slice none 0 0] 331)
    have hn12x:=hn11x.alloc (.cells #[.int .i64 0,.int .i64 0,.int .i64 0,.slice none 0 0,.slice none 0 0] 331)
    refine hK.out _ (W11.alloc (.cells #[.int .i64 0,.int .i64 0,.int .i64 0,.slice none 0 0,.slice none 0 0] 331)) (HSA.out _ kw12) (fun HS12=>?_)
    try simp only[Act.put,Sx]
    obtain⟨K12,eK12⟩:∃x,x=W11.heap.size:=⟨_,rfl⟩
    rw[←eK12]at hK12 gK12⊢
    generalize W11.alloc (.cells #[.int .i64 0,.int .i64 0,.int .i64 0,.slice none 0 0,.slice none 0 0] 331)=W12 at kw12 hK12 hr12x hn12x HS12⊢
    clear hK eK12
    refine wpAnyH_ready (rs:=[5]) Rx (by simp) ?_
    refine AllReadyH.cons rfl (fun K hK=>?_) ?_
    try simp only[Gx]at hK⊢
    focus
     obtain⟨W13,hrun0,hn13,ku,hs⟩:=hn12x.put Eb Tryz.underlying224 .z K12
     have hrun:(Instr.mapUpdate 224 (.map (some bn10)) (.agg #[.int .i64 0,.int .i64 0,.int .i64 0]) (.pointer (some ⟨K12,0,none⟩))).run Tryz.prog W12= .ok () W13:=hrun0
     clear hs hrun0
     have kw13:Aa No w W13:=kw12.step ku fun y hy hl=>by unfold At1 at hy;omega
     have hK13x:=ku.heap hK12 (Ne.symm (AA hn12x hK12))
     have hr13x:=ku.heap hr12x (Ne.symm (AA hn12x hr12x))
     go_simp
     refine hK.out _ _ (HSA.out _ kw13) (fun HS13=>?_)
     try simp only[Act.put,Sx]
     clear hK hrun
     refine Tx 6 ?_ ?_ ?_
     rotate_left
     focus
      intro wH hSw
      try simp only[Gx]
      try dsimp only at hSw
      go_simp
      try with_reducible rfl
     try simp only[Gx,Act.put,Sx]
     refine Tx 7 ?_ ?_ ?_
     rotate_left
     focus
      intro wH hSw
      try simp only[Gx]
      try dsimp only at hSw
      go_simp
      try with_reducible rfl
     try simp only[Gx,Act.put,Sx]
     refine wpAnyH_ready (rs:=[8]) Rx (by simp) ?_
     refine AllReadyH.cons rfl (fun K hK=>?_) ?_
     try simp only[Gx]at hK⊢
     focus
      go_simp
      have kw14:Aa No w (W13.alloc (.cells #[.pointer (some ⟨br11,0,none⟩),.map (some bn10)] 226)):=kw13.alloc _
      have hb14:=Nx W13 (.cells #[.pointer (some ⟨br11,0,none⟩),.map (some bn10)] 226)
      have gb14:=kw13.size
      have hn14x:=hn13.alloc (.cells #[.pointer (some ⟨br11,0,none⟩),.map (some bn10)] 226)
      have hK14x:=Ab hK13x (.cells #[.pointer (some ⟨br11,0,none⟩),.map (some bn10)] 226)
      have hr14x:=Ab hr13x (.cells #[.pointer (some ⟨br11,0,none⟩),.map (some bn10)] 226)
      refine hK.out _ (W13.alloc (.cells #[.pointer (some ⟨br11,0,none⟩),.map (some bn10)] 226)) (HSA.out _ kw14) (fun HS14=>?_)
      try simp only[Act.put,Sx]
      obtain⟨b14,eb14⟩:∃x,x=W13.heap.size:=⟨_,rfl⟩
      rw[←eb14]at hb14 gb14⊢
      generalize W13.alloc (.cells #[.pointer (some ⟨br11,0,none⟩),.map (some bn10)] 226)=W14 at kw14 hb14 hn14x hK14x hr14x HS14⊢
      clear hK eb14
      refine Tx 9 ?_ ?_ ?_
      rotate_left
      focus
       intro wH hSw
       try simp only[Gx]
       try dsimp only at hSw
       go_simp
       try with_reducible rfl
      try simp only[Gx,Act.put,Sx]
      refine wpAnyH_done Rx ?_ _
      go_wp2_with fail
      go_ret
      exact⟨_,rfl,F9 hb14 hr14x hK14x hn14x gb14 gbr11 gK12 gbn10,kw14⟩
     exact AllReadyH.nil
    exact AllReadyH.nil
   exact AllReadyH.nil
  refine AllReadyH.cons rfl (fun K hK=>?_) ?_
  try simp only[Gx]at hK⊢
  focus
   go_simp
   have kw15:Aa No w (W10.alloc (.cells #[.int .i64 0,.int .i64 0,.int .i64 0,.slice none 0 0,.slice none 0 0] 331)):=kw10.alloc _
   have hK15:=Nx W10 (.cells #[.int .i64 0,.int .i64 0,.int .i64 0,.slice none 0 0,.slice none 0 0] 331)
   have gK15:=kw10.size
   have hn15x:=hn10.alloc (.cells #[.int .i64 0,.int .i64 0,.int .i64 0,.slice none 0 0,.slice none 0 0] 331)
   refine hK.out _ (W10.alloc (.cells #[.int .i64 0,.int .i64 0,.int .i64 0,.slice none 0 0,.slice none 0 0] 331)) (HSA.out _ kw15) (fun HS15=>?_)
   try simp only[Act.put,Sx]
   obtain⟨K15,eK15⟩:∃x,x=W10.heap.size:=⟨_,rfl⟩
   rw[←eK15]at hK15 gK15⊢
   generalize W10.alloc (.cells #[.int .i64 0,.int .i64 0,.int .i64 0,.slice none 0 0,.slice none 0 0] 331)=W15 at kw15 hK15 hn15x HS15⊢
   clear hK eK15
   refine wpAnyH_ready (rs:=[0,5]) Rx (by simp) ?_
   refine AllReadyH.cons rfl (fun K hK=>?_) ?_
   try simp only[Gx]at hK⊢
   focus
    go_simp
    go_at_call 219
    refine(EV _).mono ?_
    rintro e Wx ⟨rfl,rfl⟩
    have kw16:Aa No w (W15.alloc (.cells #[.slice none 0 0] 283)):=kw15.alloc _
    have hr16:=Nx W15 (.cells #[.slice none 0 0] 283)
    have gbr16:=kw15.size
    have hK16x:=Ab hK15 (.cells #[.slice none 0 0] 283)
    have hn16x:=hn15x.alloc (.cells #[.slice none 0 0] 283)
    refine hK.out _ (W15.alloc (.cells #[.slice none 0 0] 283)) (HSA.out _ kw16) (fun HS16=>?_)
    try simp only[Act.put,Sx]
    obtain⟨br16,ebr16⟩:∃x,x=W15.heap.size:=⟨_,rfl⟩
    rw[←ebr16]at hr16 gbr16⊢
    generalize W15.alloc (.cells #[.slice none 0 0] 283)=W16 at kw16 hr16 hK16x hn16x HS16⊢
    clear hK ebr16
    refine wpAnyH_ready (rs:=[5]) Rx (by simp) ?_
    refine AllReadyH.cons rfl (fun K hK=>?_) ?_
    try simp only[Gx]at hK⊢
    focus
     obtain⟨W17,hrun0,hn17,ku,hs⟩:=hn16x.put Eb Tryz.underlying224 .z K15
     have hrun:(Instr.mapUpdate 224 (.map (some bn10)) (.agg #[.int .i64 0,.int .i64 0,.int .i64 0]) (.pointer (some ⟨K15,0,none⟩))).run Tryz.prog W16= .ok () W17:=hrun0
     clear hs hrun0
     have kw17:Aa No w W17:=kw16.step ku fun y hy hl=>by unfold At1 at hy;omega
     have hr17x:=ku.heap hr16 (Ne.symm (AA hn16x hr16))
     have hK17x:=ku.heap hK16x (Ne.symm (AA hn16x hK16x))
     go_simp
     refine hK.out _ _ (HSA.out _ kw17) (fun HS17=>?_)
     try simp only[Act.put,Sx]
     clear hK hrun
     refine Tx 6 ?_ ?_ ?_
     rotate_left
     focus
      intro wH hSw
      try simp only[Gx]
      try dsimp only at hSw
      go_simp
      try with_reducible rfl
     try simp only[Gx,Act.put,Sx]
     refine Tx 7 ?_ ?_ ?_
     rotate_left
     focus
      intro wH hSw
      try simp only[Gx]
      try dsimp only at hSw
      go_simp
      try with_reducible rfl
     try simp only[Gx,Act.put,Sx]
     refine wpAnyH_ready (rs:=[8]) Rx (by simp) ?_
     refine AllReadyH.cons rfl (fun K hK=>?_) ?_
     try simp only[Gx]at hK⊢
     focus
      go_simp
      have kw18:Aa No w (W17.alloc (.cells #[.pointer (some ⟨br16,0,none⟩),.map (some bn10)] 226)):=kw17.alloc _
      have hb18:=Nx W17 (.cells #[.pointer (some ⟨br16,0,none⟩),.map (some bn10)] 226)
      have gb18:=kw17.size
      have hn18x:=hn17.alloc (.cells #[.pointer (some ⟨br16,0,none⟩),.map (some bn10)] 226)
      have hr18x:=Ab hr17x (.cells #[.pointer (some ⟨br16,0,none⟩),.map (some bn10)] 226)
      have hK18x:=Ab hK17x (.cells #[.pointer (some ⟨br16,0,none⟩),.map (some bn10)] 226)
      refine hK.out _ (W17.alloc (.cells #[.pointer (some ⟨br16,0,none⟩),.map (some bn10)] 226)) (HSA.out _ kw18) (fun HS18=>?_)
      try simp only[Act.put,Sx]
      obtain⟨b18,eb18⟩:∃x,x=W17.heap.size:=⟨_,rfl⟩
      rw[←eb18]at hb18 gb18⊢
      generalize W17.alloc (.cells #[.pointer (some ⟨br16,0,none⟩),.map (some bn10)] 226)=W18 at kw18 hb18 hn18x hr18x hK18x HS18⊢
      clear hK eb18
      refine Tx 9 ?_ ?_ ?_
      rotate_left
      focus
       intro wH hSw
       try simp only[Gx]
       try dsimp only at hSw
       go_simp
       try with_reducible rfl
      try simp only[Gx,Act.put,Sx]
      refine wpAnyH_done Rx ?_ _
      go_wp2_with fail
      go_ret
      exact⟨_,rfl,F9 hb18 hr18x hK18x hn18x gb18 gbr16 gK15 gbn10,kw18⟩
     exact AllReadyH.nil
    exact AllReadyH.nil
   refine AllReadyH.cons rfl (fun K hK=>?_) ?_
   try simp only[Gx]at hK⊢
   focus
    obtain⟨W19,hrun0,hn19,ku,hs⟩:=hn15x.put Eb Tryz.underlying224 .z K15
    have hrun:(Instr.mapUpdate 224 (.map (some bn10)) (.agg #[.int .i64 0,.int .i64 0,.int .i64 0]) (.pointer (some ⟨K15,0,none⟩))).run Tryz.prog W15= .ok () W19:=hrun0
    clear hs hrun0
    have kw19:Aa No w W19:=kw15.step ku fun y hy hl=>by unfold At1 at hy;omega
    have hK19x:=ku.heap hK15 (Ne.symm (AA hn15x hK15))
    go_simp
    refine hK.out _ _ (HSA.out _ kw19) (fun HS19=>?_)
    try simp only[Act.put,Sx]
    clear hK hrun
    refine Tx 6 ?_ ?_ ?_
    rotate_left
    focus
     intro wH hSw
     try simp only[Gx]
     try dsimp only at hSw
     go_simp
     try with_reducible rfl
    try simp only[Gx,Act.put,Sx]
    refine wpAnyH_ready (rs:=[0]) Rx (by simp) ?_
    refine AllReadyH.cons rfl (fun K hK=>?_) ?_
    try simp only[Gx]at hK⊢
    focus
     go_simp
     go_at_call 219
     refine(EV _).mono ?_
     rintro e Wx ⟨rfl,rfl⟩
     have kw20:Aa No w (W19.alloc (.cells #[.slice none 0 0] 283)):=kw19.alloc _
     have hr20:=Nx W19 (.cells #[.slice none 0 0] 283)
     have gbr20:=kw19.size
     have hn20x:=hn19.alloc (.cells #[.slice none 0 0] 283)
     have hK20x:=Ab hK19x (.cells #[.slice none 0 0] 283)
     refine hK.out _ (W19.alloc (.cells #[.slice none 0 0] 283)) (HSA.out _ kw20) (fun HS20=>?_)
     try simp only[Act.put,Sx]
     obtain⟨br20,ebr20⟩:∃x,x=W19.heap.size:=⟨_,rfl⟩
     rw[←ebr20]at hr20 gbr20⊢
     generalize W19.alloc (.cells #[.slice none 0 0] 283)=W20 at kw20 hr20 hn20x hK20x HS20⊢
     clear hK ebr20
     refine Tx 7 ?_ ?_ ?_
     rotate_left
     focus
      intro wH hSw
      try simp only[Gx]
      try dsimp only at hSw
      go_simp
      try with_reducible rfl
     try simp only[Gx,Act.put,Sx]
     refine wpAnyH_ready (rs:=[8]) Rx (by simp) ?_
     refine AllReadyH.cons rfl (fun K hK=>?_) ?_
     try simp only[Gx]at hK⊢
     focus
      go_simp
      have kw21:Aa No w (W20.alloc (.cells #[.pointer (some ⟨br20,0,none⟩),.map (some bn10)] 226)):=kw20.alloc _
      have hb21:=Nx W20 (.cells #[.pointer (some ⟨br20,0,none⟩),.map (some bn10)] 226)
      have gb21:=kw20.size
      have hr21x:=Ab hr20 (.cells #[.pointer (some ⟨br20,0,none⟩),.map (some bn10)] 226)
      have hn21x:=hn20x.alloc (.cells #[.pointer (some ⟨br20,0,none⟩),.map (some bn10)] 226)
      have hK21x:=Ab hK20x (.cells #[.pointer (some ⟨br20,0,none⟩),.map (some bn10)] 226)
      refine hK.out _ (W20.alloc (.cells #[.pointer (some ⟨br20,0,none⟩),.map (some bn10)] 226)) (HSA.out _ kw21) (fun HS21=>?_)
      try simp only[Act.put,Sx]
      obtain⟨b21,eb21⟩:∃x,x=W20.heap.size:=⟨_,rfl⟩
      rw[←eb21]at hb21 gb21⊢
      generalize W20.alloc (.cells #[.pointer (some ⟨br20,0,none⟩),.map (some bn10)] 226)=W21 at kw21 hb21 hr21x hn21x hK21x HS21⊢
      clear hK eb21
      refine Tx 9 ?_ ?_ ?_
      rotate_left
      focus
       intro wH hSw
       try simp only[Gx]
       try dsimp only at hSw
       go_simp
       try with_reducible rfl
      try simp only[Gx,Act.put,Sx]
      refine wpAnyH_done Rx ?_ _
      go_wp2_with fail
      go_ret
      exact⟨_,rfl,F9 hb21 hr21x hK21x hn21x gb21 gbr20 gK15 gbn10,kw21⟩
     exact AllReadyH.nil
    exact AllReadyH.nil
   exact AllReadyH.nil
  exact AllReadyH.nil
 refine AllReadyH.cons rfl (fun K hK=>?_) ?_
 try simp only[Gx]at hK⊢
 focus
  go_simp
  have kw22:Aa No w (W0.alloc (.cells #[.int .i64 0,.int .i64 0,.int .i64 0,.slice none 0 0,.slice none 0 0] 331)):=kw0.alloc _
  have hK22:=Nx W0 (.cells #[.int .i64 0,.int .i64 0,.int .i64 0,.slice none 0 0,.slice none 0 0] 331)
  have gK22:=kw0.size
  refine hK.out _ (W0.alloc (.cells #[.int .i64 0,.int .i64 0,.int .i64 0,.slice none 0 0,.slice none 0 0] 331)) (HSA.out _ kw22) (fun HS22=>?_)
  try simp only[Act.put,Sx]
  obtain⟨K22,eK22⟩:∃x,x=W0.heap.size:=⟨_,rfl⟩
  rw[←eK22]at hK22 gK22⊢
  generalize W0.alloc (.cells #[.int .i64 0,.int .i64 0,.int .i64 0,.slice none 0 0,.slice none 0 0] 331)=W22 at kw22 hK22 HS22⊢
  clear hK eK22
  refine wpAnyH_ready (rs:=[0,1]) Rx (by simp) ?_
  refine AllReadyH.cons rfl (fun K hK=>?_) ?_
  try simp only[Gx]at hK⊢
  focus
   go_simp
   go_at_call 219
   refine(EV _).mono ?_
   rintro e Wx ⟨rfl,rfl⟩
   have kw23:Aa No w (W22.alloc (.cells #[.slice none 0 0] 283)):=kw22.alloc _
   have hr23:=Nx W22 (.cells #[.slice none 0 0] 283)
   have gbr23:=kw22.size
   have hK23x:=Ab hK22 (.cells #[.slice none 0 0] 283)
   refine hK.out _ (W22.alloc (.cells #[.slice none 0 0] 283)) (HSA.out _ kw23) (fun HS23=>?_)
   try simp only[Act.put,Sx]
   obtain⟨br23,ebr23⟩:∃x,x=W22.heap.size:=⟨_,rfl⟩
   rw[←ebr23]at hr23 gbr23⊢
   generalize W22.alloc (.cells #[.slice none 0 0] 283)=W23 at kw23 hr23 hK23x HS23⊢
   clear hK ebr23
   refine wpAnyH_ready (rs:=[1]) Rx (by simp) ?_
   refine AllReadyH.cons rfl (fun K hK=>?_) ?_
   try simp only[Gx]at hK⊢
   focus
    go_simp
    have kw24:Aa No w (W23.alloc (.map #[] 0)):=kw23.alloc _
    have hn24:A8 CE GQ W23.heap.size (fun _=>none) (W23.alloc (.map #[] 0)):=A8.new _
    have gbn24:=kw23.size
    have hr24x:=Ab hr23 (.map #[] 0)
    have hK24x:=Ab hK23x (.map #[] 0)
    refine hK.out _ (W23.alloc (.map #[] 0)) (HSA.out _ kw24) (fun HS24=>?_)
    try simp only[Act.put,Sx]
    obtain⟨bn24,ebn24⟩:∃x,x=W23.heap.size:=⟨_,rfl⟩
    rw[←ebn24]at hn24 gbn24⊢
    generalize W23.alloc (.map #[] 0)=W24 at kw24 hn24 hr24x hK24x HS24⊢
    clear hK ebn24
    refine wpAnyH_ready (rs:=[5]) Rx (by simp) ?_
    refine AllReadyH.cons rfl (fun K hK=>?_) ?_
    try simp only[Gx]at hK⊢
    focus
     obtain⟨W25,hrun0,hn25,ku,hs⟩:=hn24.put Eb Tryz.underlying224 .z K22
     have hrun:(Instr.mapUpdate 224 (.map (some bn24)) (.agg #[.int .i64 0,.int .i64 0,.int .i64 0]) (.pointer (some ⟨K22,0,none⟩))).run Tryz.prog W24= .ok () W25:=hrun0
     clear hs hrun0
     have kw25:Aa No w W25:=kw24.step ku fun y hy hl=>by unfold At1 at hy;omega
     have hr25x:=ku.heap hr24x (Ne.symm (AA hn24 hr24x))
     have hK25x:=ku.heap hK24x (Ne.symm (AA hn24 hK24x))
     go_simp
     refine hK.out _ _ (HSA.out _ kw25) (fun HS25=>?_)
     try simp only[Act.put,Sx]
     clear hK hrun
     refine Tx 6 ?_ ?_ ?_
     rotate_left
     focus
      intro wH hSw
      try simp only[Gx]
      try dsimp only at hSw
      go_simp
      try with_reducible rfl
     try simp only[Gx,Act.put,Sx]
     refine Tx 7 ?_ ?_ ?_
     rotate_left
     focus
      intro wH hSw
      try simp only[Gx]
      try dsimp only at hSw
      go_simp
      try with_reducible rfl
     try simp only[Gx,Act.put,Sx]
     refine wpAnyH_ready (rs:=[8]) Rx (by simp) ?_
     refine AllReadyH.cons rfl (fun K hK=>?_) ?_
     try simp only[Gx]at hK⊢
     focus
      go_simp
      have kw26:Aa No w (W25.alloc (.cells #[.pointer (some ⟨br23,0,none⟩),.map (some bn24)] 226)):=kw25.alloc _
      have hb26:=Nx W25 (.cells #[.pointer (some ⟨br23,0,none⟩),.map (some bn24)] 226)
      have gb26:=kw25.size
      have hn26x:=hn25.alloc (.cells #[.pointer (some ⟨br23,0,none⟩),.map (some bn24)] 226)
      have hr26x:=Ab hr25x (.cells #[.pointer (some ⟨br23,0,none⟩),.map (some bn24)] 226)
      have hK26x:=Ab hK25x (.cells #[.pointer (some ⟨br23,0,none⟩),.map (some bn24)] 226)
      refine hK.out _ (W25.alloc (.cells #[.pointer (some ⟨br23,0,none⟩),.map (some bn24)] 226)) (HSA.out _ kw26) (fun HS26=>?_)
      try simp only[Act.put,Sx]
      obtain⟨b26,eb26⟩:∃x,x=W25.heap.size:=⟨_,rfl⟩
      rw[←eb26]at hb26 gb26⊢
      generalize W25.alloc (.cells #[.pointer (some ⟨br23,0,none⟩),.map (some bn24)] 226)=W26 at kw26 hb26 hn26x hr26x hK26x HS26⊢
      clear hK eb26
      refine Tx 9 ?_ ?_ ?_
      rotate_left
      focus
       intro wH hSw
       try simp only[Gx]
       try dsimp only at hSw
       go_simp
       try with_reducible rfl
      try simp only[Gx,Act.put,Sx]
      refine wpAnyH_done Rx ?_ _
      go_wp2_with fail
      go_ret
      exact⟨_,rfl,F9 hb26 hr26x hK26x hn26x gb26 gbr23 gK22 gbn24,kw26⟩
     exact AllReadyH.nil
    exact AllReadyH.nil
   exact AllReadyH.nil
  refine AllReadyH.cons rfl (fun K hK=>?_) ?_
  try simp only[Gx]at hK⊢
  focus
   go_simp
   have kw27:Aa No w (W22.alloc (.map #[] 0)):=kw22.alloc _
   have hn27:A8 CE GQ W22.heap.size (fun _=>none) (W22.alloc (.map #[] 0)):=A8.new _
   have gbn27:=kw22.size
   have hK27x:=Ab hK22 (.map #[] 0)
   refine hK.out _ (W22.alloc (.map #[] 0)) (HSA.out _ kw27) (fun HS27=>?_)
   try simp only[Act.put,Sx]
   obtain⟨bn27,ebn27⟩:∃x,x=W22.heap.size:=⟨_,rfl⟩
   rw[←ebn27]at hn27 gbn27⊢
   generalize W22.alloc (.map #[] 0)=W27 at kw27 hn27 hK27x HS27⊢
   clear hK ebn27
   refine wpAnyH_ready (rs:=[0,5]) Rx (by simp) ?_
   refine AllReadyH.cons rfl (fun K hK=>?_) ?_
   try simp only[Gx]at hK⊢
   focus
    go_simp
    go_at_call 219
    refine(EV _).mono ?_
    rintro e Wx ⟨rfl,rfl⟩
    have kw28:Aa No w (W27.alloc (.cells #[.slice none 0 0] 283)):=kw27.alloc _
    have hr28:=Nx W27 (.cells #[.slice none 0 0] 283)
    have gbr28:=kw27.size
    have hn28x:=hn27.alloc (.cells #[.slice none 0 0] 283)
    have hK28x:=Ab hK27x (.cells #[.slice none 0 0] 283)
    refine hK.out _ (W27.alloc (.cells #[.slice none 0 0] 283)) (HSA.out _ kw28) (fun HS28=>?_)
    try simp only[Act.put,Sx]
    obtain⟨br28,ebr28⟩:∃x,x=W27.heap.size:=⟨_,rfl⟩
    rw[←ebr28]at hr28 gbr28⊢
    generalize W27.alloc (.cells #[.slice none 0 0] 283)=W28 at kw28 hr28 hn28x hK28x HS28⊢
    clear hK ebr28
    refine wpAnyH_ready (rs:=[5]) Rx (by simp) ?_
    refine AllReadyH.cons rfl (fun K hK=>?_) ?_
    try simp only[Gx]at hK⊢
    focus
     obtain⟨W29,hrun0,hn29,ku,hs⟩:=hn28x.put Eb Tryz.underlying224 .z K22
     have hrun:(Instr.mapUpdate 224 (.map (some bn27)) (.agg #[.int .i64 0,.int .i64 0,.int .i64 0]) (.pointer (some ⟨K22,0,none⟩))).run Tryz.prog W28= .ok () W29:=hrun0
     clear hs hrun0
     have kw29:Aa No w W29:=kw28.step ku fun y hy hl=>by unfold At1 at hy;omega
     have hr29x:=ku.heap hr28 (Ne.symm (AA hn28x hr28))
     have hK29x:=ku.heap hK28x (Ne.symm (AA hn28x hK28x))
     go_simp
     refine hK.out _ _ (HSA.out _ kw29) (fun HS29=>?_)
     try simp only[Act.put,Sx]
     clear hK hrun
     refine Tx 6 ?_ ?_ ?_
     rotate_left
     focus
      intro wH hSw
      try simp only[Gx]
      try dsimp only at hSw
      go_simp
      try with_reducible rfl
     try simp only[Gx,Act.put,Sx]
     refine Tx 7 ?_ ?_ ?_
     rotate_left
     focus
      intro wH hSw
      try simp only[Gx]
      try dsimp only at hSw
      go_simp
      try with_reducible rfl
     try simp only[Gx,Act.put,Sx]
     refine wpAnyH_ready (rs:=[8]) Rx (by simp) ?_
     refine AllReadyH.cons rfl (fun K hK=>?_) ?_
     try simp only[Gx]at hK⊢
     focus
      go_simp
      have kw30:Aa No w (W29.alloc (.cells #[.pointer (some ⟨br28,0,none⟩),.map (some bn27)] 226)):=kw29.alloc _
      have hb30:=Nx W29 (.cells #[.pointer (some ⟨br28,0,none⟩),.map (some bn27)] 226)
      have gb30:=kw29.size
      have hn30x:=hn29.alloc (.cells #[.pointer (some ⟨br28,0,none⟩),.map (some bn27)] 226)
      have hr30x:=Ab hr29x (.cells #[.pointer (some ⟨br28,0,none⟩),.map (some bn27)] 226)
      have hK30x:=Ab hK29x (.cells #[.pointer (some ⟨br28,0,none⟩),.map (some bn27)] 226)
      refine hK.out _ (W29.alloc (.cells #[.pointer (some ⟨br28,0,none⟩),.map (some bn27)] 226)) (HSA.out _ kw30) (fun HS30=>?_)
      try simp only[Act.put,Sx]
      obtain⟨b30,eb30⟩:∃x,x=W29.heap.size:=⟨_,rfl⟩
      rw[←eb30]at hb30 gb30⊢
      generalize W29.alloc (.cells #[.pointer (some ⟨br28,0,none⟩),.map (some bn27)] 226)=W30 at kw30 hb30 hn30x hr30x hK30x HS30⊢
      clear hK eb30
      refine Tx 9 ?_ ?_ ?_
      rotate_left
      focus
       intro wH hSw
       try simp only[Gx]
       try dsimp only at hSw
       go_simp
       try with_reducible rfl
      try simp only[Gx,Act.put,Sx]
      refine wpAnyH_done Rx ?_ _
      go_wp2_with fail
      go_ret
      exact⟨_,rfl,F9 hb30 hr30x hK30x hn30x gb30 gbr28 gK22 gbn27,kw30⟩
     exact AllReadyH.nil
    exact AllReadyH.nil
   refine AllReadyH.cons rfl (fun K hK=>?_) ?_
   try simp only[Gx]at hK⊢
   focus
    obtain⟨W31,hrun0,hn31,ku,hs⟩:=hn27.put Eb Tryz.underlying224 .z K22
    have hrun:(Instr.mapUpdate 224 (.map (some bn27)) (.agg #[.int .i64 0,.int .i64 0,.int .i64 0]) (.pointer (some ⟨K22,0,none⟩))).run Tryz.prog W27= .ok () W31:=hrun0
    clear hs hrun0
    have kw31:Aa No w W31:=kw27.step ku fun y hy hl=>by unfold At1 at hy;omega
    have hK31x:=ku.heap hK27x (Ne.symm (AA hn27 hK27x))
    go_simp
    refine hK.out _ _ (HSA.out _ kw31) (fun HS31=>?_)
    try simp only[Act.put,Sx]
    clear hK hrun
    refine Tx 6 ?_ ?_ ?_
    rotate_left
    focus
     intro wH hSw
     try simp only[Gx]
     try dsimp only at hSw
     go_simp
     try with_reducible rfl
    try simp only[Gx,Act.put,Sx]
    refine wpAnyH_ready (rs:=[0]) Rx (by simp) ?_
    refine AllReadyH.cons rfl (fun K hK=>?_) ?_
    try simp only[Gx]at hK⊢
    focus
     go_simp
     go_at_call 219
     refine(EV _).mono ?_
     rintro e Wx ⟨rfl,rfl⟩
     have kw32:Aa No w (W31.alloc (.cells #[.slice none 0 0] 283)):=kw31.alloc _
     have hr32:=Nx W31 (.cells #[.slice none 0 0] 283)
     have gbr32:=kw31.size
     have hn32x:=hn31.alloc (.cells #[.slice none 0 0] 283)
     have hK32x:=Ab hK31x (.cells #[.slice none 0 0] 283)
     refine hK.out _ (W31.alloc (.cells #[.slice none 0 0] 283)) (HSA.out _ kw32) (fun HS32=>?_)
     try simp only[Act.put,Sx]
     obtain⟨br32,ebr32⟩:∃x,x=W31.heap.size:=⟨_,rfl⟩
     rw[←ebr32]at hr32 gbr32⊢
     generalize W31.alloc (.cells #[.slice none 0 0] 283)=W32 at kw32 hr32 hn32x hK32x HS32⊢
     clear hK ebr32
     refine Tx 7 ?_ ?_ ?_
     rotate_left
     focus
      intro wH hSw
      try simp only[Gx]
      try dsimp only at hSw
      go_simp
      try with_reducible rfl
     try simp only[Gx,Act.put,Sx]
     refine wpAnyH_ready (rs:=[8]) Rx (by simp) ?_
     refine AllReadyH.cons rfl (fun K hK=>?_) ?_
     try simp only[Gx]at hK⊢
     focus
      go_simp
      have kw33:Aa No w (W32.alloc (.cells #[.pointer (some ⟨br32,0,none⟩),.map (some bn27)] 226)):=kw32.alloc _
      have hb33:=Nx W32 (.cells #[.pointer (some ⟨br32,0,none⟩),.map (some bn27)] 226)
      have gb33:=kw32.size
      have hr33x:=Ab hr32 (.cells #[.pointer (some ⟨br32,0,none⟩),.map (some bn27)] 226)
      have hn33x:=hn32x.alloc (.cells #[.pointer (some ⟨br32,0,none⟩),.map (some bn27)] 226)
      have hK33x:=Ab hK32x (.cells #[.pointer (some ⟨br32,0,none⟩),.map (some bn27)] 226)
      refine hK.out _ (W32.alloc (.cells #[.pointer (some ⟨br32,0,none⟩),.map (some bn27)] 226)) (HSA.out _ kw33) (fun HS33=>?_)
      try simp only[Act.put,Sx]
      obtain⟨b33,eb33⟩:∃x,x=W32.heap.size:=⟨_,rfl⟩
      rw[←eb33]at hb33 gb33⊢
      generalize W32.alloc (.cells #[.pointer (some ⟨br32,0,none⟩),.map (some bn27)] 226)=W33 at kw33 hb33 hr33x hn33x hK33x HS33⊢
      clear hK eb33
      refine Tx 9 ?_ ?_ ?_
      rotate_left
      focus
       intro wH hSw
       try simp only[Gx]
       try dsimp only at hSw
       go_simp
       try with_reducible rfl
      try simp only[Gx,Act.put,Sx]
      refine wpAnyH_done Rx ?_ _
      go_wp2_with fail
      go_ret
      exact⟨_,rfl,F9 hb33 hr33x hK33x hn33x gb33 gbr32 gK22 gbn27,kw33⟩
     exact AllReadyH.nil
    exact AllReadyH.nil
   exact AllReadyH.nil
  exact AllReadyH.nil
 exact AllReadyH.nil
end Go.Proofs.YthfjefcljeamgaaGreatDoor
