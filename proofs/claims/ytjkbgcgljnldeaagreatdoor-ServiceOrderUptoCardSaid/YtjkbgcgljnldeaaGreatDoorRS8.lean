/- Part of a proof; own work. -/
import Derived.Test.YtjkbgcgljnldeaaGreatDoorR0
import Derived.Test.YtjkbgcgljnldeaaGreatDoorRS7
set_option linter.unusedVariables false
set_option linter.unusedSimpArgs false
namespace Go.Proofs
set_option maxRecDepth 100000
theorem aJ0 (v:Value) (w:World):(Instr.typeAssert (.iface 79 v) 20 79 true).run Tryz.prog w= .ok (.tuple #[v,.bool true]) w:=by
 simp [Instr.typeAssert,run_underlying Tryz.underlying79]
end Go.Proofs
namespace Go.bc.T.N
open Go Go.bc Go.Proofs
set_option maxRecDepth 100000
abbrev z31:List I:=[.str [],.str [],.str [],.aV,.aV,.aV]
def Cf:List bP:=[⟨some 11,none,.build z31 []⟩,⟨some 12,none,.nH 0 (.t 3)⟩,⟨some 13,none,.hr 3 false 1 (.t 12)⟩,⟨some 14,none,.nH 1 (.t 3)⟩,⟨some 15,none,.hr 3 false 1 (.t 14)⟩,⟨none,none,.fh 0 [1,2,3] 6 (.t 0) (.t 11)⟩,⟨none,none,.fh 1 [0,2,3] 1 (.t 1) (.t 13)⟩,⟨none,none,.fh 2 [0,1,3] 1 (.t 2) (.t 15)⟩]
theorem F1 (H:aA) (b:Nat) (T:TypeId) (cs:List I):(H.ch b T cs).aU b=some (T,cs):=if_pos rfl
theorem xN (H:aA){b k:Nat}(T:TypeId) (cs:List I) (h:k≠b):(H.ch b T cs).aU k=H.aU k:=if_neg h
theorem aM6 {H:aA}{hi eB dU z:Nat}{p e:Int}{jX:List I}{v1 v2:I}{env:Env}{K:Env→aA→Prop}{Rp:I→aA→Prop}(bE:env.get 0= .ptr hi 0) (ar:env.get 1= .ptr eB 0) (ax:env.get 2= .ptr dU 0) (cw:env.get 3= .ptr z 0)
  (aw:H.aU hi=some (27,jX)) (aH:jX.length=6) (J:H.aU eB=some (3,[v1])) (aa:H.aU dU=some (28,[v2])) (au:H.aU z=some (79,[.int .i64 p,.int .i64 e])) (yu:hi≠eB) (yv:hi≠dU) (d12:eB≠dU) (d0:hi≠z) (d1:eB≠z) (d2:dU≠z)
  (dv: ∀bb,K bb (((H.ch hi 27 z31).ch eB 3 [.int .i64 p]).ch dU 28 [.int .i64 e])):bf Tryz.prog Cf env H K Rp:=by
 unfold Cf
 refine bf.p (v:= .agg z31) rfl ?_
 refine bf.p (v:= .ptr z 0) (by simp [bU,aK.aJ,Env.get,cw]) ?_
 refine bf.p (v:= .int .i64 p) (by simp [bU,aK.aJ,Env.get,cw,au,I.iB,I.one]) ?_
 refine bf.p (v:= .ptr z 1) (by simp [bU,aK.aJ,Env.get,cw]) ?_
 refine bf.p (v:= .int .i64 e) (by simp [bU,aK.aJ,Env.get,cw,au,I.iB,I.one]) ?_
 rw[yb]
 simp only[GStep,wanted]
 refine .fh (b:=hi) (o:=0) (T:=27) (cs:=jX) (by simp [Env.get,bE]) (fun s ap=> ?_) (by simp [aK.aJ,Env.get,bE]) aw rfl (by rw[aH]; decide) rfl ?_
 ·simp only[List.mem_cons,List.not_mem_nil,or_false]at ap
  rcases ap with rfl|rfl|rfl
  ·exact⟨eB,by simp [Env.get,ar],yu.symm⟩
  ·exact⟨dU,by simp [Env.get,ax],yv.symm⟩
  ·exact⟨z,by simp [Env.get,cw],d0.symm⟩
 have es:gx jX 0 (I.cells (aK.aJ ((15,.int .i64 e)::(14,.ptr z 1)::(13,.int .i64 p)::(12,.ptr z 0)::(11,.agg z31)::env) (.t 11)))=z31:=by
  show List.take 0 jX++z31++jX.drop (0+6)=z31
  rw[List.take_zero,List.drop_eq_nil_of_le (by omega)]
  rfl
 rw[es]
 rw[yb]
 simp only[GStep,wanted]
 refine .fh (b:=eB) (o:=0) (T:=3) (cs:=[v1]) (by simp [Env.get,Env.put,ar]) (fun s ap=> ?_) (by simp [aK.aJ,Env.get,Env.put,ar]) (by rw[xN _ _ _ yu.symm]; exact J) rfl (Nat.le_refl _) rfl ?_
 ·simp only[List.mem_cons,List.not_mem_nil,or_false]at ap
  rcases ap with rfl|rfl|rfl
  ·exact⟨hi,by simp [Env.get,Env.put,bE],yu⟩
  ·exact⟨dU,by simp [Env.get,Env.put,ax],d12.symm⟩
  ·exact⟨z,by simp [Env.get,Env.put,cw],d1.symm⟩
 rw[yb]
 simp only[GStep,wanted]
 refine .fh (b:=dU) (o:=0) (T:=28) (cs:=[v2]) (by simp [Env.get,Env.put,ax]) (fun s ap=> ?_) (by simp [aK.aJ,Env.get,Env.put,ax]) (by rw[xN _ _ _ d12.symm,xN _ _ _ yv.symm]; exact aa) rfl (Nat.le_refl _) rfl ?_
 ·simp only[List.mem_cons,List.not_mem_nil,or_false]at ap
  rcases ap with rfl|rfl|rfl
  ·exact⟨hi,by simp [Env.get,Env.put,bE],yv⟩
  ·exact⟨eB,by simp [Env.get,Env.put,ar],d12⟩
  ·exact⟨z,by simp [Env.get,Env.put,cw],d2.symm⟩
 exact bf.nil (dv _)
theorem ai2:Tryz.prog.follows .mixedOrders=true:=by kernel_rfl
theorem Wi:(match Tryz.f31.body with
  |some (.seq _ (.seq _ (.cond _ r _)))=>kF Tryz.prog 16 r (.region Cf true)
  | _=>false)=true:=by kernel_rfl
set_option maxHeartbeats 8000000 in
theorem ap7 {m:Mem}(bo:b5 m){hi eB dU:Nat}{p e:Int}{jX:List I}{v1 v2:I}(aw:m.H.aU hi=some (27,jX)) (aH:jX.length=6) (J:m.H.aU eB=some (3,[v1])) (aa:m.H.aU dU=some (28,[v2])) (yu:hi≠eB) (yv:hi≠dU) (d12:eB≠dU):
  CallsD Tryz.prog 31 #[.pointer (some ⟨hi,0,none⟩),.pointer (some ⟨eB,0,none⟩),.pointer (some ⟨dU,0,none⟩)] (.panicking [{v:= .iface 79 (.agg #[.int .i64 p,.int .i64 e]),recovered:=false}]) m.w fun x q9 w'=>
   (∃v,x= .returned v)∧q9= .panicking [{v:= .iface 79 (.agg #[.int .i64 p,.int .i64 e]),recovered:=true}]∧∃aF gb cQ,b5 ⟨w',aF,gb,cQ⟩∧b0 m ⟨w',aF,gb,cQ⟩∧aF=((m.H.ch hi 27 z31).ch eB 3 [.int .i64 p]).ch dU 28 [.int .i64 e]:=by
 have jd:=rp bo aw
 have aM:=rp bo J
 have dZ:=rp bo aa
 obtain⟨z,aB⟩: ∃z,z=m.w.heap.size:=⟨_,rfl⟩
 refine callsD_of_wpS Tryz.func31 rfl fun Ih cs hu=> ?_
 apply wpS_seq
 apply wpS_region
 simp [wpOpsS,go_sem,recoverD,hu,Tryz.ntmps31,Exit.thenS,aJ0]
 apply wpS_seq
 apply wpS_region
 simp [wpOpsS,go_sem,Exit.thenS]
 refine wpS_cond (t:=true) (by simp [Act.eval,Array.replicate]) ?_
 simp only[if_true]
 refine wpS_of_wp ?_
 have H3:=Wi
 simp only[Tryz.f31]at H3
 have aD0:b5 (m.b7 79 [.int .i64 p,.int .i64 e] [.int .i64 p,.int .i64 e]):=b5.b7 bo (by simp [aS,aR]) (by simp [Value.oneCell'])
 have XF:=b0.b7 m 79 [.int .i64 p,.int .i64 e] [.int .i64 p,.int .i64 e]
 refine aB8 (n:=16) (m0:=⟨m,[],[]⟩) (anns:=[]) (ops:=Cf) (env:=[(0,.ptr hi 0),(1,.ptr eB 0),(2,.ptr dU 0),(3,.ptr z 0)]) (H:=m.H.ch z 79 [.int .i64 p,.int .i64 e]) (K:=fun _ H=>H=(((m.H.ch z 79 [.int .i64 p,.int .i64 e]).ch hi 27 z31).ch eB 3 [.int .i64 p]).ch dU 28 [.int .i64 e]) (Rp:=fun _ _=>False) ai2 rfl H3 (fun x aX kg a h=>h.elim) (fun env H a w dv ag=> ?_) ?_ ⟨m.b7 79 [.int .i64 p,.int .i64 e] [.int .i64 p,.int .i64 e],?_,by rw[aB]; rfl,aD0,XF,fun k=> ?_,⟨rfl,fun E dc=>by cases dc⟩,?_⟩
 ·obtain⟨aX,rfl,rfl,FO,DH,_,gi,_⟩:=ag
  have L7:HSub (((m.H.ch hi 27 z31).ch eB 3 [I.int IntKind.i64 p]).ch dU 28 [I.int IntKind.i64 e]) aX.H:=by
   rw[dv]
   refine⟨fun b x hb=> ?_,fun t i aO=>aO⟩
   have YS:m.H.aU z=none:=by rw[aB]; exact wB bo
   simp only[aA.ch]at hb ⊢
   by_cases bA:b=dU
   ·simpa [bA] using hb
   by_cases bC:b=eB
   ·simpa [bA,bC] using hb
   by_cases s4:b=hi
   ·simpa [bA,bC,s4] using hb
   simp only[bA,bC,s4,if_false]at hb ⊢
   rw[if_neg (by intro e; rw[e,YS]at hb; cases hb)]
   exact hb
  refine⟨gi.1,_,rfl,.tuple #[],by simp [Go.results,Tryz.results31],⟨_,rfl⟩,rfl,_,aX.L,aX.T,b5.forget L7 FO,b0.forget L7 DH,rfl⟩
 ·refine aM6 rfl rfl rfl rfl (by rw[xN _ _ _ (by omega)]; exact aw) aH (by rw[xN _ _ _ (by omega)]; exact J) (by rw[xN _ _ _ (by omega)]; exact aa) (F1 _ _ _ _) yu yv d12 (by omega) (by omega) (by omega) fun _=>rfl
 ·rfl
 ·match k with
  |0=>simp [Env.get,aR,Array.replicate]
  |1=>simp [Env.get,aR,Array.replicate]
  |2=>simp [Env.get,aR,Array.replicate]
  |3=>simp [Env.get,aR,Array.replicate,aB]
  |k+4=>simp [Env.get,aR]
 ·simp
theorem WA {c:a1}{jX:List I}{v1 v2:I}{p e:Int}(oo:c.H.aU 0=some (27,jX)) (aH:jX.length=6) (qF:c.H.aU 1=some (3,[v1])) (hP:c.H.aU 2=some (28,[v2])):
  wq Tryz.prog 31 [.ptr 0 0,.ptr 1 0,.ptr 2 0] (og p e) c fun c2=>c2=((c.ch 0 27 z31).ch 1 3 [.int .i64 p]).ch 2 28 [.int .i64 e]:=by
 intro H0 s yp cY H Lw ab ag
 simp only[bs,aN]at Lw
 obtain⟨_,_,rfl,⟨wo,g0,rfl⟩,_,_,rfl,⟨qa,g1,rfl⟩,_,_,rfl,⟨po,g2,rfl⟩,rfl⟩:=Lw
 have hQ:cY=og p e:=(I.lC (og p e) rfl cY).1 ab
 subst hQ
 intro m ay kg eD bo af yP
 subst eD
 simp only[aS,aR,og]at af yP
 obtain⟨_,_,rfl,rfl,_,_,rfl,rfl,_,_,rfl,rfl,rfl⟩:=af
 obtain⟨x,rfl,l,rfl,_,_,rfl,rfl,_,_,rfl,rfl,rfl⟩:=yP
 obtain⟨z0,jd,s4,kS,jP⟩:=ag.aU _ _ _ oo
 obtain⟨al,aM,bC,cI,bO⟩:=ag.aU _ _ _ qF
 obtain⟨z2,dZ,bA,c8,b4⟩:=ag.aU _ _ _ hP
 rw[g0]at s4
 rw[g1]at bC
 rw[g2]at bA
 cases s4
 cases bC
 cases bA
 have cD:=bs.length jP
 have li:=bs.length bO
 have mA:=bs.length b4
 match aM,li,cI with
 |[pn],_,cI=>
 match dZ,mA,c8 with
 |[mc],_,c8=>
 refine (ap7 bo kS (by rw[cD]; exact aH) cI c8 (fun e=> ?_) (fun e=> ?_) (fun e=> ?_)).mono ?_
 ·subst e; exact absurd (ag.ld _ _ _ g0 g1) (by decide)
 ·subst e; exact absurd (ag.ld _ _ _ g0 g2) (by decide)
 ·subst e; exact absurd (ag.ld _ _ _ g1 g2) (by decide)
 rintro cC q9 w' ⟨J,aa,aF,gb,cQ,au,bn,rfl⟩
 refine⟨J,aa,_,gb,cQ,au,bn,s,_,bt.et.refl s,rfl,?_⟩
 exact ((ag.ch g0 (by simp [bs,aN])).ch g1 (by simp [bs,aN])).ch g2 (by simp [bs,aN])
end Go.bc.T.N
