/- Part of a proof; own work. -/
import Derived.Lib.ItoaNum
import Derived.Lib.LaidTab
import Derived.Stop.LaidErr
import Derived.MakeChecks
import Derived.HandedShaped
import Derived.SizedLaws
import Derived.Test.YtjkbgcgljnldeaaGreatDoorProg
import Derived.KernelRfl
import Derived.JoinedCond
import Derived.Test.YtjkbgcgljnldeaaGreatDoorRows
import Derived.Test.YtjkbgcgljnldeaaGreatDoorPS12
set_option linter.unusedVariables false
set_option linter.unusedSimpArgs false
set_option maxHeartbeats 8000000
namespace Go.Proofs.YtjkbgcgljnldeaaGreatDoor
open Go.ChangeShapes Go.WideShapes Go.ChangeAt Go.RowKit
section
variable {H:Type}{enc:TypeId×Value→H}
end
theorem A8:Tryz.prog.globalNamed "internal/strconv.uint64pow10" =some 1:=by kernel_rfl
theorem X2:(Tryz.prog.globals[1]?).map (·.type)=some 261:=by kernel_rfl
theorem Wh:Tryz.prog.cellsOf 261=20:=by kernel_rfl
theorem Wg:Tryz.prog.cellsOf 249=1:=by kernel_rfl
theorem aD1:(((begin Tryz.prog (fun _ _=>0) default).world.heap[1]?).bind Obj.row?).map (·.2)=some 261:=by kernel_rfl
theorem Yi:1<Tryz.prog.globals.size:=of_decide_eq_true (by kernel_rfl)
theorem TL {W:World}{g t:Nat}(ap:W.ShapedOpen Tryz.prog) (aY:g<Tryz.prog.globals.size) (h:(((begin Tryz.prog (fun _ _=>0) default).world.heap[g]?).bind Obj.row?).map (·.2)=some t){name:String}(a6:Tryz.prog.globalNamed name=some g){cs:Array Value}(af:W.var? Tryz.prog name=some cs):W.heap[g]? =some (.cells cs t (0,0)):=by
 obtain⟨⟨zero,dx⟩,J,aa⟩:=Option.map_eq_some_iff.1 h
 simp only at aa
 subst aa
 obtain⟨c3,au,_⟩:=ap.1 g zero dx aY J
 unfold World.var? at af
 rw[a6]at af
 simp only[Option.bind_some,au,Option.some.injEq]at af
 rw[au,af]
theorem X6 {W:World}(ap:W.ShapedOpen Tryz.prog) (h:laidMetH Tryz.prog vF W):Go.bc.nv W:=by
 rw[MakeChecks.laidMetH_plain _ _ _ (by kernel_rfl)]at h
 have aa:laidMet Tryz.prog (("internal/strconv.uint64pow10",Lib.tabData .u64 Lib.pow10Tab)::[("unicode/utf8.acceptRanges",Rows.laid_unicode_utf8_acceptRanges),("unicode/utf8.first",Rows.laid_unicode_utf8_first)]) W:=h.tail.tail
 have v3:Lib.TabIs Tryz.prog W "internal/strconv.uint64pow10" .u64 Lib.pow10Tab:=Lib.tabIs_of_head A8 X2 Tryz.underlying261 Tryz.underlying249 Wg Wh aa
 have jj:=TL ap Yi aD1 A8 v3
 intro p hp
 simp only[Go.bc.yH,List.mem_cons,List.not_mem_nil,or_false]at hp
 subst hp
 exact⟨_,jj,261,_,rfl⟩
end Go.Proofs.YtjkbgcgljnldeaaGreatDoor
namespace Go.bc
open Go Go.bc.T.N
def aT (s r:a7) (kW:bH):Prop:=∀(N n:Nat) (acc:List ba),s.length<n→∃Sc m,Sc.map ba.c=kW∧r.length<m∧qQ N n acc s=qQ N m (acc++Sc) r
theorem aT.refl (s:a7):aT s s []:=fun N n acc h=>⟨[],n,rfl,h,by rw[List.append_nil]⟩
theorem aT.trans {s r q:a7}{kW us:bH}(J:aT s r kW) (aa:aT r q us):aT s q (kW++us):=fun N n acc h=>by
 obtain⟨a,m,ar,ax,cw⟩:=J N n acc h
 obtain⟨b,k,g1,g2,g3⟩:=aa N m (acc++a) ax
 exact⟨a++b,k,by rw[List.map_append,ar,g1],g2,by rw[cw,g3,List.append_assoc]⟩
theorem aT.TH {c:UInt8}(ah:lS c=true) (s:a7):aT (c::s) s []:=fun N n acc h=>by
 obtain⟨n,rfl⟩: ∃k,n=k+1:=⟨n-1,by omega⟩
 refine⟨[],n+1,rfl,by simp only[List.length_cons]at h; omega,?_⟩
 rw[List.append_nil,uw,uw]
 congr 1
 show ko (s.length+1+1) (c::s)= _
 rw[ko,if_pos ah]
theorem aT.zJ {c:UInt8}{y:a7}{t:ba}{r:a7}(hb:lS c=false) (DX:(c::y).take 2≠[47,47]) (aO:l9 (c::y)= .ok t r):aT (c::y) r [t.c]:=fun N n acc h=>by
 obtain⟨n,rfl⟩: ∃k,n=k+1:=⟨n-1,by omega⟩
 obtain⟨d,u,hu⟩:=Sb aO
 have aH:=congrArg List.length hu
 simp only[List.length_cons,List.length_append]at aH h
 refine⟨[{t with vj:=((N-(c::y).length:Nat):Int)}],n,rfl,by omega,?_⟩
 rw[uw]
 have:ko ((c::y).length+1) (c::y)=c::y:=by
  rw[ko,if_neg (by rw[hb]; decide),if_neg DX]
 rw[this]
 simp only[lexB,aO]
theorem aT.fin {s:a7}{kW:bH}(h:aT s [] kW) (ap:s.length≤8000): ∃l,pV s= .ok l∧l.map ba.c=kW:=by
 obtain⟨a,m,ar,ax,cw⟩:=h s.length (s.length+1) [] (by omega)
 obtain⟨m,rfl⟩: ∃k,m=k+1:=⟨m-1,by omega⟩
 refine⟨a,?_,ar⟩
 rw[pV,if_neg (by omega),cw,uw]
 simp [ko,lexB]
theorem aT.cW {c:UInt8}(ah:lS c=true){r q:a7}{us:bH}(h:aT r q us):aT (c::r) q us:=(aT.TH ah r).trans h
theorem aT.ft {r q:a7}{us:bH}(h:aT r q us):aT (32::r) q us:=aT.cW rfl h
theorem aT.kQ {r q:a7}{us:bH}(h:aT r q us):aT (10::r) q us:=aT.cW rfl h
theorem aT.kp {r q:a7}{us:bH}(h:aT r q us): ∀d:Nat,aT (List.replicate d 9++r) q us
 |0=>h
 |d+1=>by rw[List.replicate_succ,List.cons_append]; exact aT.cW rfl (aT.kp h d)
theorem Gj {p:UInt8→Bool}: ∀ {w r:a7},w.all p=true→(∀c y,r=c::y→p c=false)→(w++r).takeWhile p=w∧(w++r).dropWhile p=r
 |[],r,_,h=>by
  cases r with
  |nil=>exact⟨rfl,rfl⟩
  |cons c y=>
   have:=h c y rfl
   simp [List.takeWhile_cons,List.dropWhile_cons,this]
 |a::w,r,aP,h=>by
  simp only[List.all_cons,Bool.and_eq_true]at aP
  obtain⟨J,aa⟩:=Gj (w:=w) aP.2 h
  simp [List.takeWhile_cons,List.dropWhile_cons,aP.1,J,aa]
theorem Lx {r:a7}(h:ki r=false): ∀c y,r=c::y→iO c=false:=fun c y e=>by subst e; exact h
theorem ag9 {c:UInt8}(h:l1 c=true):lS c=false∧c≠47:=by
 constructor
 ·cases hb:lS c with
  |false=>rfl
  |true=>
   simp only[lS,Bool.or_eq_true,beq_iff_eq]at hb
   rcases hb with rfl|rfl|rfl|rfl<;>exact absurd h (by decide)
 ·rintro rfl; exact absurd h (by decide)
theorem aT.name {w r q:a7}{us:bH}(hw:mx w=true) (ag:ki r=false) (h:aT r q us):aT (w++r) q (dH w::us):=by
 cases w with
 |nil=>simp [mx]at hw
 |cons c w=>
  simp only[mx,Bool.and_eq_true,decide_eq_true_eq]at hw
  obtain⟨aH,ah,aP⟩:=hw
  obtain⟨ar,ax⟩:=Gj aP (Lx ag)
  obtain⟨eB,dU⟩:=ag9 ah
  refine (aT.zJ (t:=⟨1,c::w,0,0⟩) eB ?_ ?_).trans h
  ·intro e
   have bE:=congrArg List.head? e
   simp only[List.take_succ_cons,List.head?_cons,Option.some.injEq]at bE
   exact dU bE
  ·show l9 (c::(w++r))= _
   rw[l9,if_pos ah,vJ]
   rw[List.cons_append]at ar ax
   rw[ar,ax,if_neg (by omega)]
theorem aT.word {w r q:a7}{us:bH}(hw:db w=true) (ag:ki r=false) (h:aT r q us):aT (w++r) q (dH w::us):=aT.name (by simp only[db,Bool.and_eq_true]at hw; exact hw.1) ag h
theorem ah8: ∀c∈qS,lS c=false∧l1 c=false∧iY c=false∧¬c.toNat=34:=by decide
theorem aT.m1 {c:UInt8}{r q:a7}{us:bH}(ah:c∈qS) (aa:(c::r).take 2∉gO) (DX:(c::r).take 2≠[47,47]) (h:aT r q us):aT (c::r) q (cy [c]::us):=by
 have hb:=ah8 c ah
 refine (aT.zJ (t:=⟨4,[c],0,0⟩) hb.1 DX ?_).trans h
 rw[l9,if_neg (by rw[hb.2.1]; decide),if_neg (by rw[hb.2.2.1]; decide),if_neg hb.2.2.2,ux,if_neg aa]
 simp only[if_pos ah]
theorem aT.m2 {a b:UInt8}{r q:a7}{us:bH}(hm:[a,b]∈gO) (h:aT r q us):aT (a::b::r) q (cy [a,b]::us):=by
 have hb:lS a=false∧l1 a=false∧iY a=false∧¬a.toNat=34∧[a,b]≠[47,47]:=by
  simp only[gO,List.mem_cons,List.cons.injEq,and_true,List.not_mem_nil,or_false]at hm
  rcases hm with ⟨rfl,rfl⟩|⟨rfl,rfl⟩|⟨rfl,rfl⟩|⟨rfl,rfl⟩|⟨rfl,rfl⟩|⟨rfl,rfl⟩|⟨rfl,rfl⟩|⟨rfl,rfl⟩<;>decide
 refine (aT.zJ (t:=⟨4,[a,b],0,0⟩) hb.1 (by exact hb.2.2.2.2) ?_).trans h
 rw[l9,if_neg (by rw[hb.2.1]; decide),if_neg (by rw[hb.2.2.1]; decide),if_neg hb.2.2.2.1,ux,if_pos (by exact hm)]
 rfl
theorem IC {k:Nat}(h:k<10):iY (UInt8.ofNat (48+k))=true∧((UInt8.ofNat (48+k)).toNat:Int)-48=k∧(k=0↔UInt8.ofNat (48+k)=48):=by
 have key: ∀k:Fin 10,iY (UInt8.ofNat (48+k.val))=true∧((UInt8.ofNat (48+k.val)).toNat:Int)-48=k.val∧(k.val=0↔UInt8.ofNat (48+k.val)=48):=by decide
 exact key ⟨k,h⟩
theorem Sz: ∀(a b:a7) (v:Int),pk (a++b) v=pk b (pk a v)
 |[],b,v=>rfl
 |c::a,b,v=>by simp only[List.cons_append,pk,Sz a b]
theorem Ir: ∀(n:Nat),(Lib.decDigits n).all iY=true∧pk (Lib.decDigits n) 0=n∧(1<(Lib.decDigits n).length→(Lib.decDigits n).head?≠some 48)∧Lib.decDigits n≠[]∧(1≤n→(Lib.decDigits n).head?≠some 48):=by
 intro n
 induction n using Nat.strongRecOn with
 |ind n cv=>
  by_cases h:n<10
  ·rw[wK h]
   obtain⟨J,aa,au⟩:=IC h
   refine⟨by simp only[List.all_cons,List.all_nil,J,Bool.and_true],by simp only[pk]; omega,by simp,by simp,fun h=> ?_⟩
   intro e
   simp only[List.head?_cons,Option.some.injEq]at e
   have:=au.2 e
   omega
  ·obtain⟨g1,g2,g3,g4,g5⟩:=cv (n/10) (by omega)
   obtain⟨J,aa,au⟩:=IC (k:=n%10) (by omega)
   rw[yw h]
   have bh:(Lib.decDigits (n/10)++[UInt8.ofNat (48+n%10)]).head?=(Lib.decDigits (n/10)).head?:=by
    cases bw:Lib.decDigits (n/10) with
    |nil=>exact absurd bw g4
    |cons a l=>rfl
   refine⟨by simp only[List.all_append,List.all_cons,List.all_nil,g1,J,Bool.and_true],?_,fun _=> ?_,by simp,fun _=> ?_⟩
   ·rw[Sz,g2]
    simp only[pk]
    omega
   ·rw[bh]; exact g5 (by omega)
   ·rw[bh]; exact g5 (by omega)
theorem WW {n:Nat}(h:n<1000000):(Lib.decDigits n).length≤6:=by
 have key: ∀(k n:Nat),n<10^(k+1)→(Lib.decDigits n).length≤k+1:=by
  intro k
  induction k with
  |zero=>intro n h; rw[wK (by simpa using h)]; simp
  |succ k cv=>
   intro n h
   by_cases rN:n<10
   ·rw[wK rN]; simp
   ·rw[yw rN,List.length_append,List.length_cons,List.length_nil]
    have:=cv (n/10) (by rw[Nat.pow_succ]at h; omega)
    omega
 exact key 5 n (by simpa using h)
theorem W7 {c:UInt8}(h:iY c=true):lS c=false∧c≠47∧l1 c=false:=by
 have key: ∀n:Fin 256,iY (UInt8.ofNat n.val)=true→lS (UInt8.ofNat n.val)=false∧UInt8.ofNat n.val≠47∧l1 (UInt8.ofNat n.val)=false:=by decide+kernel
 have:=key ⟨c.toNat,c.toNat_lt⟩
 simp only[UInt8.ofNat_toNat]at this
 exact this h
theorem W6 {c:UInt8}(h:iY c=true):iO c=true:=by
 have key: ∀n:Fin 256,iY (UInt8.ofNat n.val)=true→iO (UInt8.ofNat n.val)=true:=by decide+kernel
 have:=key ⟨c.toNat,c.toNat_lt⟩
 simp only[UInt8.ofNat_toNat]at this
 exact this h
theorem aT.num {n:Nat}{r q:a7}{us:bH}(a6:n<1000000) (ag:ki r=false) (h:aT r q us):aT (Lib.decDigits n++r) q (kr n::us):=by
 obtain⟨f1,f2,f3,f4,_⟩:=Ir n
 have f5:=WW a6
 have ck: ∀c y,r=c::y→iY c=false:=fun c y e=>by
  cases bw:iY c with
  |false=>rfl
  |true=>rw[←Lx ag c y e]; exact (W6 bw).symm
 obtain⟨ar,ax⟩:=Gj f1 ck
 generalize Lib.decDigits n=w at*
 cases w with
 |nil=>exact absurd rfl f4
 |cons c w=>
  simp only[List.all_cons,Bool.and_eq_true]at f1
  obtain⟨eB,dU,jj⟩:=W7 f1.1
  refine (aT.zJ (t:=⟨2,[],(n:Int),0⟩) eB ?_ ?_).trans h
  ·intro e
   have bE:=congrArg List.head? e
   simp only[List.take_succ_cons,List.head?_cons,Option.some.injEq]at bE
   exact dU bE
  ·show l9 (c::(w++r))= _
   rw[l9,if_neg (by rw[jj]; decide),if_pos f1.1,vL]
   rw[List.cons_append]at ar ax
   rw[ar,ax,zl,if_neg (by rw[ag]; decide),if_neg,f2]
   rintro (cq|⟨cq,j0⟩)
   ·omega
   ·exact f3 cq j0
theorem Sd: ∀(s b r:a7),s.all eo=true→jy b (iC s++34::r)=(if 40<b.length+s.length then .err 6 else .ok ⟨3,b++s,0,0⟩ r)
 |[],b,r,_=>by
  show jy b (34::r)= _
  cases r with
  |nil=>rw[jy,if_pos (by decide)]; simp
  |cons d y=>rw[jy,if_pos (by decide)]; simp
 |c::s,b,r,h=>by
  simp only[List.all_cons,Bool.and_eq_true]at h
  have cv:=Sd s (b++[c]) r h.2
  have aH:(b++[c]).length+s.length=b.length+(c::s).length:=by simp; omega
  have hb:b++[c]++s=b++c::s:=by simp
  rw[aH,hb]at cv
  rw[←cv]
  simp only[iC]
  by_cases bG:c.toNat=34∨c.toNat=92
  ·rw[if_pos bG]
   simp only[List.cons_append,List.nil_append]
   rw[jy,if_neg (by decide),if_pos (by decide)]
   simp only[if_pos bG]
  ·rw[if_neg bG]
   simp only[not_or]at bG
   simp only[List.cons_append,List.nil_append]
   have ah:=h.1
   simp only[eo,Bool.and_eq_true,decide_eq_true_eq]at ah
   cases ab:iC s++34::r with
   |nil=>simp at ab
   |cons d y=>
    rw[jy,if_neg bG.1,if_neg bG.2,if_neg (by omega)]
theorem aT.text {s r q:a7}{us:bH}(ap:lM s=true) (h:aT r q us):aT (p4 s++r) q (p6 s::us):=by
 simp only[lM,Bool.and_eq_true,decide_eq_true_eq]at ap
 have bG:p4 s++r=34::(iC s++34::r):=by simp [p4]
 rw[bG]
 refine (aT.zJ (t:=⟨3,s,0,0⟩) (by decide) (fun e=> ?_) ?_).trans h
 ·have bE:=congrArg List.head? e
  simp at bE
 ·rw[l9,if_neg (by decide),if_neg (by decide),if_pos (by decide),Sd s [] r ap.2,if_neg (by simp; omega)]
  rfl
def BR:List a7:=[[124,124],[38,38],[61,61],[33,61],[60],[60,61],[62],[62,61],[43],[45],[42],[47],[37]]
theorem ar3 {o:a7}(h:cV o≠0):o∈BR:=by
 by_cases hm:o∈BR
 ·exact hm
 ·exfalso
  apply h
  simp only[BR,List.mem_cons,List.not_mem_nil,or_false,not_or]at hm
  obtain⟨J,aa,au,bn,bL,cq,j0,j7,rN,rM,ui,Bb,Bc⟩:=hm
  simp [cV,J,aa,au,bn,bL,cq,j0,j7,rN,rM,ui,Bb,Bc]
theorem aT.op {o r q:a7}{us:bH}(aq:cV o≠0) (h:aT (32::r) q us):aT (o++32::r) q (cy o::us):=by
 have hm:=ar3 aq
 simp only[BR,List.mem_cons,List.not_mem_nil,or_false]at hm
 rcases hm with rfl|rfl|rfl|rfl|rfl|rfl|rfl|rfl|rfl|rfl|rfl|rfl|rfl
 ·exact aT.m2 (by decide) h
 ·exact aT.m2 (by decide) h
 ·exact aT.m2 (by decide) h
 ·exact aT.m2 (by decide) h
 ·exact aT.m1 (by decide) (by show ([60,32]:a7)∉gO; decide) (by show ([60,32]:a7)≠ _; decide) h
 ·exact aT.m2 (by decide) h
 ·exact aT.m1 (by decide) (by show ([62,32]:a7)∉gO; decide) (by show ([62,32]:a7)≠ _; decide) h
 ·exact aT.m2 (by decide) h
 ·exact aT.m1 (by decide) (by show ([43,32]:a7)∉gO; decide) (by show ([43,32]:a7)≠ _; decide) h
 ·exact aT.m1 (by decide) (by show ([45,32]:a7)∉gO; decide) (by show ([45,32]:a7)≠ _; decide) h
 ·exact aT.m1 (by decide) (by show ([42,32]:a7)∉gO; decide) (by show ([42,32]:a7)≠ _; decide) h
 ·exact aT.m1 (by decide) (by show ([47,32]:a7)∉gO; decide) (by show ([47,32]:a7)≠ _; decide) h
 ·exact aT.m1 (by decide) (by show ([37,32]:a7)∉gO; decide) (by show ([37,32]:a7)≠ _; decide) h
def lone (c:UInt8):Bool:=c==40||c==41||c==123||c==125||c==44||c==59||c==58
theorem aT.lone {c:UInt8}(ah:lone c=true){r q:a7}{us:bH}(h:aT r q us):aT (c::r) q (cy [c]::us):=by
 have J:c=40∨c=41∨c=123∨c=125∨c=44∨c=59∨c=58:=by
  simp only[bc.lone,Bool.or_eq_true,beq_iff_eq]at ah
  rcases ah with ((((((h|h)|h)|h)|h)|h)|h)<;>simp [h]
 have key: ∀r:a7,c∈qS∧(c::r).take 2∉gO∧(c::r).take 2≠[47,47]:=by
  intro r
  have aa: ∀d:UInt8,[c,d]∉gO:=by
   intro d hm
   simp only[gO,List.mem_cons,List.cons.injEq,and_true,List.not_mem_nil,or_false]at hm
   rcases J with rfl|rfl|rfl|rfl|rfl|rfl|rfl<;>simp at hm
  have au:c≠47:=by rintro rfl; simp at J
  refine⟨by rcases J with rfl|rfl|rfl|rfl|rfl|rfl|rfl<;>decide,?_,?_⟩
  ·cases r with
   |nil=>
    intro hm
    simp [gO]at hm
   |cons d r=>exact aa d
  ·intro e
   have bE:=congrArg List.head? e
   simp only[List.take_succ_cons,List.head?_cons,Option.some.injEq]at bE
   exact au bE
 exact aT.m1 (key r).1 (key r).2.1 (key r).2.2 h
theorem aT.minus {c:UInt8}{r q:a7}{us:bH}(ah:c≠62) (h:aT (c::r) q us):aT (45::c::r) q (cy [45]::us):=by
 refine aT.m1 (by decide) ?_ ?_ h
 ·show ([45,c]:a7)∉gO
  simp [gO,ah]
 ·show ([45,c]:a7)≠ _
  simp
theorem aT.not {c:UInt8}{r q:a7}{us:bH}(ah:c≠61) (h:aT (c::r) q us):aT (33::c::r) q (cy [33]::us):=by
 refine aT.m1 (by decide) ?_ ?_ h
 ·show ([33,c]:a7)∉gO
  simp [gO,ah]
 ·show ([33,c]:a7)≠ _
  simp
theorem aT.eq {r q:a7}{us:bH}(h:aT (32::r) q us):aT (61::32::r) q (cy [61]::us):=aT.m1 (by decide) (by show ([61,32]:a7)∉gO; decide) (by show ([61,32]:a7)≠ _; decide) h
def rR (s:a7):Prop:=∃c y,s=c::y∧c≠61∧c≠62
theorem rR.dM {s r:a7}(h:rR s):rR (s++r):=by
 obtain⟨c,y,rfl,J,aa⟩:=h
 exact⟨c,y++r,rfl,J,aa⟩
theorem Ly {x:ad}{s:a7}{k:Int}(h:rR s):rR (fX x s k):=by
 unfold fX
 split
 ·exact⟨40,s++[41],by simp,by decide,by decide⟩
 ·exact h
theorem aN1 {w:a7}(h:db w=true):rR w:=by
 cases w with
 |nil=>simp [db,mx]at h
 |cons c w=>
  simp only[db,mx,Bool.and_eq_true]at h
  refine⟨c,w,rfl,?_,?_⟩<;>(rintro rfl; exact absurd h.1.2.1 (by decide))
theorem Is (n:Nat):rR (Lib.decDigits n):=by
 obtain⟨f1,_,_,f4,_⟩:=Ir n
 cases bw:Lib.decDigits n with
 |nil=>exact absurd bw f4
 |cons c w=>
  rw[bw]at f1
  simp only[List.all_cons,Bool.and_eq_true]at f1
  refine⟨c,w,rfl,?_,?_⟩<;>(rintro rfl; exact absurd f1.1 (by decide))
theorem Mu {n:Int}(h:0≤n):Lib.itoa n=Lib.decDigits n.toNat:=by
 unfold Lib.itoa
 rw[if_neg (by omega)]
theorem ac0 {n:Int}(h:n<0):Lib.itoa n=45::Lib.decDigits (-n).toNat:=by
 unfold Lib.itoa
 rw[if_pos h,show n.natAbs=(-n).toNat by omega]
theorem RS: ∀(N:Nat) (x:ad),x.bI≤N→dB x=true→rR (cm x)
 |0,x,h,_=>by cases x; simp only[ad.bI]at h; omega
 |N+1,x,bW,aY=>by
  rcases wY aY with ⟨n,rfl,aw,J⟩|⟨t,rfl,h⟩|⟨m,rfl,h⟩|⟨y,rfl,h⟩|⟨o,y,rfl,aq,h⟩|⟨o,y,z,rfl,aq,h,ij⟩
  ·show rR (Lib.itoa n)
   rw[Mu aw]
   exact Is _
  ·exact⟨34,iC t++[34],by show p4 t= _; simp [p4],by decide,by decide⟩
  ·exact aN1 h
  ·exact⟨108,_,rfl,by decide,by decide⟩
  ·rcases aq with rfl|rfl
   ·exact⟨45,_,rfl,by decide,by decide⟩
   ·exact⟨33,_,rfl,by decide,by decide⟩
  ·simp only[ad.bI,ad.bB]at bW
   show rR (fX y (cm y) (cV o)++[32]++o++[32]++fX z (cm z) (cV o+1))
   exact ((((Ly (RS N y (by omega) h)).dM).dM).dM).dM
theorem aT.int {n:Int}{r q:a7}{us:bH}(aw:0≤n) (J:n<1000000) (ag:ki r=false) (h:aT r q us):aT (Lib.itoa n++r) q (kr n::us):=by
 rw[Mu aw]
 have:=aT.num (n:=n.toNat) (by omega) ag h
 rw[show ((n.toNat:Nat):Int)=n by omega]at this
 exact this
theorem Ck: ∀(N:Nat) (x:ad),x.bI≤N→dB x=true→∀(r q:a7) (us:bH),ki r=false→aT r q us→aT (cm x++r) q (gF x++us)
 |0,x,h,_=>by cases x; simp only[ad.bI]at h; omega
 |N+1,x,bW,aY=>by
  have vP: ∀(y:ad) (k:Int) (r q:a7) (us:bH),y.bI≤N→dB y=true→ki r=false→aT r q us→aT (fX y (cm y) k++r) q (km y (gF y) k++us):=by
   intro y k r q us J aa ag h
   unfold fX km
   by_cases ah:y.kind=6∧cV y.op<k
   ·rw[if_pos ah,if_pos ah]
    simp only[List.append_assoc,List.cons_append,List.nil_append]
    exact aT.lone rfl (Ck N y J aa _ _ _ rfl (aT.lone rfl h))
   ·rw[if_neg ah,if_neg ah]
    exact Ck N y J aa _ _ _ ag h
  intro r q us ag h
  rcases wY aY with ⟨n,rfl,aw,J⟩|⟨t,rfl,aO⟩|⟨m,rfl,hm⟩|⟨y,rfl,aZ⟩|⟨o,y,rfl,aq,aZ⟩|⟨o,y,z,rfl,aq,aZ,aB⟩
  ·exact aT.int aw (by omega) ag h
  ·exact aT.text aO h
  ·exact aT.word hm ag h
  ·simp only[ad.bI,ad.bB]at bW
   show aT ([108,101,110,40]++cm y++[41]++r) q ([dH [108,101,110],cy [40]]++gF y++[cy [41]]++us)
   simp only[List.append_assoc,List.cons_append,List.nil_append]
   refine aT.name (w:=[108,101,110]) rfl rfl ?_
   exact aT.lone rfl (Ck N y (by omega) aZ _ _ _ rfl (aT.lone rfl h))
  ·simp only[ad.bI,ad.bB]at bW
   show aT (o++fX y (cm y) 7++r) q ([cy o]++km y (gF y) 7++us)
   have jG:=vP y 7 r q us (by omega) aZ ag h
   obtain⟨c,bM,ap,c1,c2⟩:=(Ly (x:=y) (k:=7) (RS N y (by omega) aZ)).dM (r:=r)
   rw[List.append_assoc,List.append_assoc]
   rw[ap]at jG ⊢
   rcases aq with rfl|rfl
   ·exact aT.minus c2 jG
   ·exact aT.not c1 jG
  ·simp only[ad.bI,ad.bB]at bW
   show aT (fX y (cm y) (cV o)++[32]++o++[32]++fX z (cm z) (cV o+1)++r) q (km y (gF y) (cV o)++[cy o]++km z (gF z) (cV o+1)++us)
   simp only[List.append_assoc,List.cons_append,List.nil_append]
   refine vP y _ _ _ _ (by omega) aZ rfl (aT.ft ?_)
   exact aT.op aq (aT.ft (vP z _ _ _ _ (by omega) aB ag h))
theorem aT.ex {x:ad}(aY:dB x=true){r q:a7}{us:bH}(ag:ki r=false) (h:aT r q us):aT (cm x++r) q (gF x++us):=Ck _ x (Nat.le_refl _) aY r q us ag h
theorem ah1 (d:Nat) (ps:List a7) (r:a7):eE d ps++r=List.replicate d 9++(ps.flatten++10::r):=by simp [eE]
theorem aT.line {d:Nat}{ps:List a7}{r q:a7}{us:bH}(h:aT (ps.flatten++10::r) q us):aT (eE d ps++r) q us:=by
 rw[ah1]
 exact aT.kp h d
theorem aT.my {w r q:a7}{us:bH}(hw:mx w=true) (h:aT r q us):aT (w++32::r) q (dH w::us):=aT.name hw rfl (aT.ft h)
def GW (N:Nat):Prop:=∀(x:ac),x.bI≤N→hX x=true→∀(d:Nat) (r q:a7) (us:bH),aT r q us→aT (ac.gS d [105,102,32] x++r) q (kV x++us)∧(x.kind=2→aT (ac.gS d [125,32,101,108,115,101,32,105,102,32] x++r) q (cy [125]::dH [101,108,115,101]::(kV x++us)))
theorem zh {N:Nat}(mo:GW N): ∀(l:List ac),ac.bB l≤N→ho l=true→∀(d:Nat) (r q:a7) (us:bH),aT r q us→aT (ac.fF d l++r) q (lr l++us)
 |[],_,_,d,r,q,us,h=>h
 |x::l,bW,aY,d,r,q,us,h=>by
  simp only[ac.bB]at bW
  simp only[ho,Bool.and_eq_true]at aY
  simp only[ac.fF,lr,List.append_assoc]
  exact (mo x (by omega) aY.1 d _ _ _ (zh mo l (by omega) aY.2 d r q us h)).1
theorem zg: ∀N,GW N
 |0,x,h,_=>by cases x; simp only[ac.bI]at h; omega
 |N+1,x,bW,aY=>by
  intro d r q us h
  rcases A9 aY with ⟨m,y,rfl,J,aa⟩|⟨y,a,b,rfl,aZ,aP,hb⟩|⟨y,t,a,rfl,aw,J,aZ,aP⟩
  ·refine⟨?_,fun h=>absurd h (by show ¬(1:Int)=2; decide)⟩
   simp only[ac.gS,kV,if_true]
   refine aT.line ?_
   simp only[List.flatten_cons,List.flatten_nil,List.append_nil,List.append_assoc,List.cons_append,List.nil_append]
   refine aT.word J rfl (aT.ft (aT.eq (aT.ft (aT.ex aa rfl (aT.lone rfl (aT.kQ h))))))
  ·simp only[ac.bI]at bW
   have key: ∀(bw:a7) (ay:bH) (f: ∀(z:a7) (ws:bH),aT z q ws→aT (bw++z) q (ay++ws)),aT (ac.gS d bw (.mk 2 [] y 0 a b)++r) q (ay++((gF y++cy [123]::(lr a++cy [125]::(if jH b=true then zI b else if b.isEmpty=true then[] else dH [101,108,115,101]::cy [123]::(lr b++[cy [125]]))))++us)):=by
    intro bw ay f
    simp only[ac.gS,show ¬(2:Int)=1 by decide,show ¬(2:Int)=3 by decide,if_false,List.append_assoc]
    refine aT.line ?_
    simp only[List.flatten_cons,List.flatten_nil,List.append_nil,List.append_assoc,List.cons_append,List.nil_append]
    refine f _ _ (aT.ex aZ rfl (aT.ft (aT.lone rfl (aT.kQ (zh (zg N) a (by omega) aP (d+1) _ _ _ ?_)))))
    by_cases oo:b=[]
    ·subst oo
     simp only[jH,List.isEmpty_nil,Bool.false_eq_true,if_false,if_true,List.nil_append]
     refine aT.line ?_
     exact aT.lone rfl (aT.kQ h)
    cases eU:jH b with
    |true=>
     simp only[if_true]
     match b,eU,hb,bW with
     |[gz],eU,hb,bW=>
     have aC:gz.kind=2:=of_decide_eq_true eU
     simp only[ho,Bool.and_true]at hb
     simp only[ac.bB]at bW
     simp only[ac.rC,zI,List.cons_append]
     exact (zg N gz (by omega) hb d r q us h).2 aC
    |false=>
     have xf:b.isEmpty=false:=by cases b with|nil=>exact absurd rfl oo|cons _ _=>rfl
     simp only[xf,Bool.false_eq_true,if_false,List.append_assoc,List.cons_append]
     refine aT.line ?_
     simp only[List.flatten_cons,List.flatten_nil,List.append_nil,List.cons_append,List.nil_append]
     refine aT.lone (c:=125) rfl (aT.ft ?_)
     refine aT.my (w:=[101,108,115,101]) rfl (aT.lone (c:=123) rfl (aT.kQ ?_))
     refine zh (zg N) b (by omega) hb (d+1) _ _ _ ?_
     refine aT.line ?_
     exact aT.lone rfl (aT.kQ h)
   have e:kV (.mk 2 [] y 0 a b)=[dH [105,102]]++(gF y++cy [123]::(lr a++cy [125]::(if jH b=true then zI b else if b.isEmpty=true then[] else dH [101,108,115,101]::cy [123]::(lr b++[cy [125]])))):=by
    simp only[kV,show ¬(2:Int)=1 by decide,show ¬(2:Int)=3 by decide,if_false,List.cons_append,List.nil_append]
   refine⟨?_,fun _=> ?_⟩
   ·rw[e,List.append_assoc]
    exact key _ _ fun z ws aB=>aT.my (w:=[105,102]) rfl aB
   ·rw[e,List.append_assoc]
    have:=key [125,32,101,108,115,101,32,105,102,32] [cy [125],dH [101,108,115,101],dH [105,102]] fun z ws aB=>by
     simp only[List.cons_append,List.nil_append]
     refine aT.lone (c:=125) rfl (aT.ft ?_)
     exact aT.my (w:=[101,108,115,101]) rfl (aT.my (w:=[105,102]) rfl aB)
    exact this
  ·refine⟨?_,fun h=>absurd h (by show ¬(3:Int)=2; decide)⟩
   simp only[ac.bI]at bW
   simp only[ac.gS,kV,show ¬(3:Int)=1 by decide,if_true,if_false,List.append_assoc,List.cons_append,List.nil_append]
   refine aT.line ?_
   simp only[List.flatten_cons,List.flatten_nil,List.append_nil,List.append_assoc,List.cons_append,List.nil_append]
   refine aT.my (w:=[119,104,105,108,101]) rfl ?_
   refine aT.ex aZ rfl (aT.ft ?_)
   refine aT.my (w:=[116,105,109,101,115]) rfl ?_
   refine aT.int (by omega) (by omega) rfl (aT.ft (aT.lone rfl (aT.kQ ?_)))
   refine zh (zg N) a (by omega) aP (d+1) _ _ _ ?_
   refine aT.line ?_
   exact aT.lone rfl (aT.kQ h)
def vd:List a7→bH
 |[]=>[]
 |w::ws=>cy [46]::dH w::vd ws
def Gh:List a7→bH
 |[]=>[]
 |w::ws=>dH w::vd ws
def xU (m:a7):bH:=Gh (iS m)
def pH:List a7→a7
 |[]=>[]
 |w::ws=>46::w++pH ws
def CF:List a7→a7
 |[]=>[]
 |w::ws=>w++pH ws
theorem zF (s:a7):iS s≠[]:=by
 cases s with
 |nil=>simp [iS]
 |cons c s=>
  simp only[iS]
  split
  ·simp
  ·split<;>simp
theorem GC: ∀s:a7,CF (iS s)=s
 |[]=>rfl
 |c::s=>by
  have cv:=GC s
  have dw:=zF s
  simp only[iS]
  split
  ·rename_i h
   subst h
   cases ap:iS s with
   |nil=>exact absurd ap dw
   |cons w ws=>
    rw[ap]at cv
    simp only[CF,pH,List.nil_append,List.cons_append]at cv ⊢
    rw[cv]
  ·cases ap:iS s with
   |nil=>exact absurd ap dw
   |cons w ws=>
    rw[ap]at cv
    simp only[CF,List.cons_append]at cv ⊢
    rw[cv]
theorem Xb {w r q:a7}{us:bH}(hw:db w=true) (h:aT (w++r) q us):aT (46::(w++r)) q (cy [46]::us):=by
 cases w with
 |nil=>simp [db,mx]at hw
 |cons c w=>
  simp only[db,mx,Bool.and_eq_true]at hw
  have ah:c≠46:=by rintro rfl; exact absurd hw.1.2.1 (by decide)
  refine aT.m1 (by decide) ?_ ?_ h
  ·show ([46,c]:a7)∉gO
   simp [gO,ah]
  ·show ([46,c]:a7)≠ _
   simp
theorem Lz (ws:List a7){r:a7}(ag:ki r=false):ki (pH ws++r)=false:=by
 cases ws with
 |nil=>exact ag
 |cons w ws=>rfl
theorem aT.pH: ∀(ws:List a7),ws.all db=true→∀(r q:a7) (us:bH),ki r=false→aT r q us→aT (bc.pH ws++r) q (vd ws++us)
 |[],_,r,q,us,ag,h=>h
 |w::ws,hw,r,q,us,ag,h=>by
  simp only[List.all_cons,Bool.and_eq_true]at hw
  simp only[bc.pH,vd,List.cons_append,List.append_assoc]
  exact Xb hw.1 (aT.word hw.1 (Lz ws ag) (aT.pH ws hw.2 r q us ag h))
theorem aT.path {m r q:a7}{us:bH}(hm:kR m=true) (ag:ki r=false) (h:aT r q us):aT (m++r) q (xU m++us):=by
 simp only[kR,Bool.and_eq_true,Ga]at hm
 have hu:=GC m
 unfold xU
 cases ap:iS m with
 |nil=>exact absurd ap (zF m)
 |cons w ws=>
  rw[ap]at hm hu
  simp only[List.all_cons,Bool.and_eq_true]at hm
  rw[←hu]
  simp only[CF,Gh,List.append_assoc,List.cons_append]
  exact aT.word hm.2.1 (Lz ws ag) (aT.pH ws hm.2.2 r q us ag h)
def pF {α:Type}(f:α→bH):List α→bH
 |[]=>[]
 |x::l=>cy [44]::(f x++pF f l)
def qR {α:Type}(f:α→bH):List α→bH
 |[]=>[]
 |x::l=>f x++pF f l
theorem ac8 (x:a7) (l:List a7):Lib.join (x::l) [44,32]=x++(l.map ([44,32]++ ·)).flatten:=by
 rw[Lib.join_cons]; rfl
theorem aT.H4 {α:Type}{f:α→bH}{g:α→a7}{P:α→Prop}(aW: ∀x,P x→∀(r q:a7) (us:bH),ki r=false→aT r q us→aT (g x++r) q (f x++us)): ∀(l:List α),(∀x∈l,P x)→∀(r q:a7) (us:bH),ki r=false→aT r q us→aT (((l.map g).map ([44,32]++ ·)).flatten++r) q (pF f l++us)
 |[],_,r,q,us,ag,h=>h
 |x::l,aH,r,q,us,ag,h=>by
  have cv:=aT.H4 aW l (fun y aZ=>aH y (List.mem_cons_of_mem _ aZ)) r q us ag h
  simp only[List.map_cons,List.flatten_cons,pF,List.cons_append,List.nil_append,List.append_assoc]
  refine aT.lone rfl (aT.ft (aW x (aH x List.mem_cons_self) _ _ _ ?_ cv))
  cases l with
  |nil=>exact ag
  |cons y l=>rfl
theorem aT.MM {α:Type}{f:α→bH}{g:α→a7}{P:α→Prop}(aW: ∀x,P x→∀(r q:a7) (us:bH),ki r=false→aT r q us→aT (g x++r) q (f x++us)) (l:List α) (aH: ∀x∈l,P x) (r q:a7) (us:bH) (ag:ki r=false) (h:aT r q us):aT (Lib.join (l.map g) [44,32]++r) q (qR f l++us):=by
 cases l with
 |nil=>exact h
 |cons x l=>
  rw[List.map_cons,ac8,List.append_assoc]
  simp only[qR,List.append_assoc]
  refine aW x (aH x List.mem_cons_self) _ _ _ ?_ (aT.H4 aW l (fun y aZ=>aH y (List.mem_cons_of_mem _ aZ)) r q us ag h)
  cases l with
  |nil=>exact ag
  |cons y l=>rfl
def nr (z:Int):bH:=if z<0 then[cy [45],kr (-z)] else[kr z]
theorem aT.F5 {z:Int}{r q:a7}{us:bH}(aw: -1000000<z) (J:z<1000000) (ag:ki r=false) (h:aT r q us):aT (Lib.itoa z++r) q (nr z++us):=by
 unfold nr
 by_cases aB:z<0
 ·rw[if_pos aB,ac0 aB]
  obtain⟨c,y,ap,_,c2⟩:=(Is (-z).toNat).dM (r:=r)
  have:=aT.num (n:=(-z).toNat) (by omega) ag h
  rw[show (((-z).toNat:Nat):Int)= -z by omega]at this
  rw[List.cons_append]
  rw[ap]at this ⊢
  exact aT.minus c2 this
 ·rw[if_neg aB]
  exact aT.int (by omega) J ag h
def tr (k n:Int) (s:a7):bH:=if k=2 then[p6 s] else nr n
def q4 (v:cb):bH:=dH [118,97,114]::dH v.name::cy [58]::dH (if v.hV=2 then[116,101,120,116] else[105,110,116])::(nr v.cz++cy [46,46]::(nr v.ai++cy [61]::(tr v.ik v.n v.s++[cy [59]])))
def uP (h:cd):bH:=dH [111,110]::(xU h.eK++cy [40]::(qR (fun w=>[dH w]) h.ps++cy [41]::dH [102,114,111,109]::dH h.peer::cy [123]::(lr h.body++[cy [125]])))
def v7:List ad→bH
 |[]=>[]
 |x:: _=>dH [119,104,101,114,101]::gF x
def uQ (o:ca):bH:=dH [111,102,102,101,114]::(xU o.eK++cy [40]::(qR gF o.args++cy [41]::dH [116,111]::dH o.peer::(v7 o.dT++[cy [59]])))
theorem K5 {v:cb}(h:iN v=true):db v.name=true∧ -1000000<v.cz∧v.cz<1000000∧ -1000000<v.ai∧v.ai<1000000∧((v.hV=1)∨(v.hV=2∧0≤v.cz∧0≤v.ai))∧((v.ik=1∧ -1000000<v.n∧v.n<1000000∧v.s=[])∨(v.ik=2∧v.n=0∧lM v.s=true)):=by
 simp only[iN,Bool.and_eq_true,iX,decide_eq_true_eq,Bool.or_eq_true]at h
 obtain⟨aw,J,aa,aC,au⟩:=h
 refine⟨aw,by omega,by omega,by omega,by omega,aC,?_⟩
 by_cases bC:v.ik=1
 ·rw[if_pos bC]at au
  simp only[Bool.and_eq_true,decide_eq_true_eq]at au
  exact .inl ⟨bC,by omega,by omega,au.2⟩
 rw[if_neg bC]at au
 by_cases bA:v.ik=2
 ·rw[if_pos bA]at au
  simp only[Bool.and_eq_true,decide_eq_true_eq]at au
  exact .inr ⟨bA,au.1,au.2⟩
 ·rw[if_neg bA]at au
  cases au
theorem Xc {r q:a7}{us:bH}(h:aT (32::r) q us):aT (46::46::32::r) q (cy [46,46]::us):=aT.m2 (by decide) h
theorem aT.aL7 {v:cb}(aY:iN v=true){r q:a7}{us:bH}(h:aT r q us):aT (jT v++r) q (q4 v++us):=by
 obtain⟨aw,J,aa,au,bn,aC,ai⟩:=K5 aY
 unfold jT
 refine aT.line ?_
 simp only[q4,List.flatten_cons,List.flatten_nil,List.append_nil,List.append_assoc,List.cons_append,List.nil_append]
 refine aT.my (w:=[118,97,114]) rfl ?_
 refine aT.word aw rfl (aT.lone rfl (aT.ft ?_))
 have xg:aT (qM v.ik v.n v.s++59::10::r) q (tr v.ik v.n v.s++cy [59]::us):=by
  unfold qM tr
  rcases ai with ⟨k,a,b,_⟩|⟨k,_,b⟩
  ·rw[if_neg (by omega),if_neg (by omega)]
   exact aT.F5 a b rfl (aT.lone rfl (aT.kQ h))
  ·rw[if_pos k,if_pos k]
   exact aT.text b (aT.lone rfl (aT.kQ h))
 have LW:aT (Lib.itoa v.cz++32::46::46::32::(Lib.itoa v.ai++32::61::32::(qM v.ik v.n v.s++59::10::r))) q (nr v.cz++cy [46,46]::(nr v.ai++cy [61]::(tr v.ik v.n v.s++cy [59]::us))):=by
  refine aT.F5 J aa rfl (aT.ft (Xc (aT.ft ?_)))
  exact aT.F5 au bn rfl (aT.ft (aT.eq (aT.ft xg)))
 rcases aC with k|⟨k,_⟩
 ·rw[if_neg (by omega),if_neg (by omega)]
  exact aT.my (w:=[105,110,116]) rfl LW
 ·rw[if_pos k,if_pos k]
  exact aT.my (w:=[116,101,120,116]) rfl LW
theorem aT.YF {x:cd}(aY:jZ x=true){r q:a7}{us:bH}(h:aT r q us):aT (jb x++r) q (uP x++us):=by
 obtain⟨g1,_⟩:=yI aY
 simp only[jZ,Bool.and_eq_true]at aY
 obtain⟨bC,bA,_,cO,_⟩:=aY
 unfold jb
 simp only[List.append_assoc]
 refine aT.line ?_
 simp only[uP,List.flatten_cons,List.flatten_nil,List.append_nil,List.append_assoc,List.cons_append,List.nil_append]
 refine aT.my (w:=[111,110]) rfl ?_
 refine aT.path bC rfl (aT.lone rfl ?_)
 have rX: ∀z ay,ki z=false→aT z q ay→aT (Lib.join x.ps [44,32]++z) q (qR (fun w=>[dH w]) x.ps++ay):=fun z ay aB h=>by
  have:=aT.MM (f:=fun w=>[dH w]) (g:=fun w:a7=>w) (P:=fun w=>db w=true) (fun w hw r q us ag h=>aT.word hw ag h) x.ps (fun w hw=>List.all_eq_true.1 cO w hw) z q ay aB h
  simpa using this
 refine rX _ _ rfl (aT.lone rfl (aT.ft ?_))
 refine aT.my (w:=[102,114,111,109]) rfl ?_
 refine aT.word bA rfl (aT.ft (aT.lone rfl (aT.kQ ?_)))
 refine zh (zg _) x.body (Nat.le_refl _) g1 2 _ _ _ ?_
 refine aT.line ?_
 exact aT.lone rfl (aT.kQ h)
theorem aT.ak1 {x:ca}(aY:j6 x=true){r q:a7}{us:bH}(h:aT r q us):aT (jJ x++r) q (uQ x++us):=by
 obtain⟨g1,g2,g3⟩:=yJ aY
 simp only[j6,Bool.and_eq_true]at aY
 obtain⟨bC,bA,_⟩:=aY
 unfold jJ
 refine aT.line ?_
 simp only[uQ,List.flatten_cons,List.flatten_nil,List.append_nil,List.append_assoc,List.cons_append,List.nil_append]
 refine aT.my (w:=[111,102,102,101,114]) rfl ?_
 refine aT.path bC rfl (aT.lone rfl ?_)
 refine aT.MM (P:=fun x=>dB x=true) (fun y aZ r q us ag h=>aT.ex aZ ag h) x.args (fun y aZ=>List.all_eq_true.1 g1 y aZ) _ _ _ rfl (aT.lone rfl (aT.ft ?_))
 refine aT.my (w:=[116,111]) rfl ?_
 have xg:aT (59::10::r) q (cy [59]::us):=aT.lone rfl (aT.kQ h)
 cases hw:x.dT with
 |nil=>
  simp only[p9,v7,List.nil_append]
  exact aT.word bA rfl xg
 |cons w ws=>
  rw[hw]at g2
  simp only[List.all_cons,Bool.and_eq_true]at g2
  simp only[p9,v7,List.cons_append,List.nil_append]
  refine aT.word bA rfl (aT.ft ?_)
  exact aT.my (w:=[119,104,101,114,101]) rfl (aT.ex g2.1 rfl xg)
theorem aT.maps {α:Type}{f:α→bH}{g:α→a7}{P:α→Prop}(aW: ∀x,P x→∀(r q:a7) (us:bH),aT r q us→aT (g x++r) q (f x++us)): ∀(l:List α),(∀x∈l,P x)→∀(r q:a7) (us:bH),aT r q us→aT ((l.map g).flatten++r) q ((l.map f).flatten++us)
 |[],_,r,q,us,h=>h
 |x::l,aH,r,q,us,h=>by
  simp only[List.map_cons,List.flatten_cons,List.append_assoc]
  exact aW x (aH x List.mem_cons_self) _ _ _ (aT.maps aW l (fun y aZ=>aH y (List.mem_cons_of_mem _ aZ)) r q us h)
def vZ (a b c:a7):bH:=[dH [115,101,114,118,105,99,101],dH a,dH [112,108,97,121,115],dH b,dH [111,102],dH c,cy [123]]
def Gg (x:e9):bH:=vZ x.name x.hD x.hA++((x.vars.map q4).flatten++((x.ap.map uP).flatten++((x.os.map uQ).flatten++[cy [125]])))
theorem aT.Y2 {a b c:a7}(aP:db a=true) (hb:db b=true) (ah:db c=true){r q:a7}{us:bH}(h:aT r q us):aT (eE 0 [[115,101,114,118,105,99,101,32],a,[32,112,108,97,121,115,32],b,[32,111,102,32],c,[32,123]]++r) q (vZ a b c++us):=by
 refine aT.line ?_
 simp only[vZ,List.flatten_cons,List.flatten_nil,List.append_nil,List.append_assoc,List.cons_append,List.nil_append]
 refine aT.my (w:=[115,101,114,118,105,99,101]) rfl ?_
 refine aT.word aP rfl (aT.ft ?_)
 refine aT.my (w:=[112,108,97,121,115]) rfl ?_
 refine aT.word hb rfl (aT.ft ?_)
 refine aT.my (w:=[111,102]) rfl ?_
 exact aT.word ah rfl (aT.ft (aT.lone rfl (aT.kQ h)))
theorem aT.tp {x:e9}(J:qX x=true) (aa:py x=true):aT (iK x) [] (Gg x):=by
 simp only[qX,Bool.and_eq_true]at J
 simp only[py,Bool.and_eq_true]at aa
 obtain⟨bC,bA,cO,_⟩:=J
 obtain⟨g1,g2,g3⟩:=aa
 unfold iK Gg
 simp only[List.append_assoc]
 refine aT.Y2 bC bA cO ?_
 refine aT.maps (P:=fun v=>iN v=true) (fun v af r q us h=>aT.aL7 af h) x.vars (fun v af=>List.all_eq_true.1 g1 v af) _ _ _ ?_
 refine aT.maps (P:=fun v=>jZ v=true) (fun v af r q us h=>aT.YF af h) x.ap (fun v af=>List.all_eq_true.1 g2 v af) _ _ _ ?_
 refine aT.maps (P:=fun v=>j6 v=true) (fun v af r q us h=>aT.ak1 af h) x.os (fun v af=>List.all_eq_true.1 g3 v af) _ _ _ ?_
 have:aT (eE 0 [[125]]++[]) [] ([cy [125]]++[]):=aT.line (aT.lone rfl (aT.kQ (aT.refl [])))
 simpa using this
theorem Og: ∀(ws:List a7),ws.all db=true→∀(n:Nat) (s:a7) (r:bH),eQ [46] r=false→ws.length+1≤n→l6 0 n s (vd ws++r)= .ok (s++pH ws) r
 |[],_,n,s,r,ag,a6=>by
  obtain⟨n,rfl⟩: ∃k,n=k+1:=⟨n-1,by omega⟩
  simp only[vd,pH,List.nil_append,List.append_nil,l6]
  exact if_neg (by rw[ag]; decide)
 |w::ws,hw,n,s,r,ag,a6=>by
  obtain⟨n,rfl⟩: ∃k,n=k+1:=⟨n-1,by omega⟩
  simp only[List.length_cons]at a6
  simp only[List.all_cons,Bool.and_eq_true]at hw
  simp only[vd,List.cons_append,l6,lf,decide_true,if_true,List.tail_cons]
  rw[p0 hw.1,okB,Og ws hw.2 n _ r ag (by omega)]
  simp [pH]
theorem Ok {m:a7}(hm:kR m=true){n:Nat}{r:bH}(ag:eQ [46] r=false) (a6:(iS m).length+1≤n):nU 0 n (xU m++r)= .ok m r:=by
 simp only[kR,Bool.and_eq_true,Ga]at hm
 have hu:=GC m
 unfold xU
 cases ap:iS m with
 |nil=>exact absurd ap (zF m)
 |cons w ws=>
  rw[ap]at hm hu a6
  simp only[List.all_cons,Bool.and_eq_true]at hm
  simp only[List.length_cons]at a6
  simp only[Gh,List.cons_append,nU]
  rw[p0 hm.2.1,okB,Og ws hm.2.2 n w r ag (by omega)]
  rw[←hu]
  rfl
theorem Ob: ∀(ps:List a7),ps.all db=true→∀(n:Nat) (acc:List a7) (r:bH),eQ [44] r=false→ps.length+1≤n→lm 0 n acc (pF (fun w=>[dH w]) ps++r)= .ok (acc++ps) r
 |[],_,n,acc,r,ag,a6=>by
  obtain⟨n,rfl⟩: ∃k,n=k+1:=⟨n-1,by omega⟩
  simp only[pF,List.nil_append,List.append_nil,lm]
  exact if_neg (by rw[ag]; decide)
 |w::ps,hw,n,acc,r,ag,a6=>by
  obtain⟨n,rfl⟩: ∃k,n=k+1:=⟨n-1,by omega⟩
  simp only[List.length_cons]at a6
  simp only[List.all_cons,Bool.and_eq_true]at hw
  simp only[pF,List.cons_append,List.nil_append,List.append_assoc,lm,lf,decide_true,if_true,List.tail_cons]
  rw[p0 hw.1,okB,Ob ps hw.2 n _ r ag (by omega)]
  simp
theorem ao2 {ps:List a7}(hp:ps.all db=true){n:Nat}{r:bH}(a6:ps.length+1≤n):nn 0 n (qR (fun w=>[dH w]) ps++cy [41]::r)= .ok ps r:=by
 cases ps with
 |nil=>simp only[qR,List.nil_append,nn,lf,decide_true,if_true,List.tail_cons]
 |cons w ps=>
  simp only[List.length_cons]at a6
  simp only[List.all_cons,Bool.and_eq_true]at hp
  simp only[qR,List.cons_append,List.nil_append,List.append_assoc,nn,kb]
  rw[if_neg (by simpa using ss hp.1 _ (by decide)),p0 hp.1,okB,Ob ps hp.2 n [w] _ (by rw[lf]; decide) (by omega),okB,mC,okB]
  rfl
theorem MZ: ∀(N:Nat) (x:ad),x.bI≤N→dB x=true→∀r,eQ [41] (gF x++r)=false
 |0,x,h,_,r=>by cases x; simp only[ad.bI]at h; omega
 |N+1,x,bW,aY,r=>by
  rcases wY aY with ⟨n,rfl,_,h⟩|⟨t,rfl,h⟩|⟨m,rfl,h⟩|⟨y,rfl,h⟩|⟨o,y,rfl,aq,h⟩|⟨o,y,z,rfl,aq,h,ij⟩
  ·exact EE _ _ _
  ·exact Mp _ _ _
  ·show eQ [41] (dH m::r)=false
   rw[kb]
   exact decide_eq_false (ss h _ (by decide))
  ·rfl
  ·show eQ [41] (cy o::(km y (gF y) 7++r))=false
   rw[lf]
   rcases aq with rfl|rfl<;>decide
  ·simp only[ad.bI,ad.bB]at bW
   show eQ [41] (km y (gF y) (cV o)++[cy o]++km z (gF z) (cV o+1)++r)=false
   rw[List.append_assoc,List.append_assoc]
   unfold km
   split
   ·rfl
   ·exact MZ N y (by omega) h _
theorem N3: ∀(l:List ad),l.all dB=true→∀(acc:List ad) (r:bH),∃cD,∀n,cD≤n→ll 0 n acc (pF gF l++cy [41]::r)= .ok (acc++l) (cy [41]::r)
 |[],_,acc,r=>⟨1,fun n a6=>by
  obtain⟨n,rfl⟩: ∃k,n=k+1:=⟨n-1,by omega⟩
  simp only[pF,List.nil_append,List.append_nil,ll]
  exact if_neg (by rw[lf]; decide)⟩
 |x::l,aY,acc,r=>by
  simp only[List.all_cons,Bool.and_eq_true]at aY
  obtain⟨cD,aw⟩:=N3 l aY.2 (acc++[x]) r
  have ap:pg 1 (pF gF l++cy [41]::r):=by
   cases l with
   |nil=>exact vY _ _ (by decide)
   |cons y l=>exact vY _ _ (by decide)
  obtain⟨li,J⟩:=xI aY.1 ap
  refine⟨max cD li+1,fun n a6=> ?_⟩
  obtain⟨n,rfl⟩: ∃k,n=k+1:=⟨n-1,by omega⟩
  simp only[pF,List.cons_append,List.append_assoc,ll,lf,decide_true,if_true,List.tail_cons]
  rw[uC J (by omega),okB,aw n (by omega),List.append_assoc]
  rfl
theorem am3 {l:List ad}(aY:l.all dB=true) (r:bH): ∃cD,∀n,cD≤n→nj 0 n (qR gF l++cy [41]::r)= .ok l r:=by
 cases l with
 |nil=>exact⟨0,fun n _=>by simp only[qR,List.nil_append,nj,lf,decide_true,if_true,List.tail_cons]⟩
 |cons x l=>
  simp only[List.all_cons,Bool.and_eq_true]at aY
  obtain⟨cD,aw⟩:=N3 l aY.2 [x] r
  have ap:pg 1 (pF gF l++cy [41]::r):=by
   cases l with
   |nil=>exact vY _ _ (by decide)
   |cons y l=>exact vY _ _ (by decide)
  obtain⟨li,J⟩:=xI aY.1 ap
  refine⟨max cD li,fun n a6=> ?_⟩
  simp only[qR,List.append_assoc,nj]
  rw[if_neg (by rw[MZ _ x (Nat.le_refl _) aY.1]; decide),uC J (by omega),okB,aw n (by omega),okB,mC,okB]
  rfl
theorem ap6 {l:List ad}(aY:l.all dB=true) (aH:l.length≤1) (r:bH): ∃cD,∀n,cD≤n→ox 0 n (v7 l++cy [59]::r)= .ok l (cy [59]::r):=by
 match l,aY,aH with
 |[],_,_=>exact⟨0,fun n _=>by simp only[v7,List.nil_append,ox,lf]; rw[if_neg (by decide)]⟩
 |[x],aY,_=>
  simp only[List.all_cons,List.all_nil,Bool.and_true]at aY
  obtain⟨li,J⟩:=xI aY (vY [59] r (by decide))
  refine⟨li,fun n a6=> ?_⟩
  simp only[v7,List.cons_append,ox,kb,decide_true,if_true,List.tail_cons]
  rw[uC J a6,okB]
 | _:: _:: _,_,aH=>simp at aH
theorem an8 {o:ca}(aY:j6 o=true) (r:bH): ∃cD,∀n,cD≤n→nl 0 n ((uQ o).tail++r)= .ok o r:=by
 obtain⟨g1,g2,g3⟩:=yJ aY
 simp only[j6,Bool.and_eq_true]at aY
 obtain⟨bC,bA,_⟩:=aY
 obtain⟨li,J⟩:=am3 g1 (dH [116,111]::dH o.peer::(v7 o.dT++cy [59]::r))
 obtain⟨mA,aa⟩:=ap6 g2 g3 r
 refine⟨max li (max mA ((iS o.eK).length+1)),fun n a6=> ?_⟩
 simp only[uQ,List.tail_cons,List.append_assoc,List.cons_append,List.nil_append,nl]
 rw[Ok bC (by rw[lf]; decide) (by omega),okB,mC,okB,J n (by omega),okB,uD,okB,p0 bA,okB,aa n (by omega),okB,mC,okB]
theorem an0 {h:cd}(aY:jZ h=true) (r:bH): ∃cD,∀n,cD≤n→nk 0 n ((uP h).tail++r)= .ok h r:=by
 obtain⟨g1,_⟩:=yI aY
 simp only[jZ,Bool.and_eq_true]at aY
 obtain⟨bC,bA,_,cO,_⟩:=aY
 obtain⟨li,J⟩:=xH (vW _) h.body r (Nat.le_refl _) g1
 refine⟨max li (max (h.ps.length+1) ((iS h.eK).length+1)),fun n a6=> ?_⟩
 simp only[uP,List.tail_cons,List.append_assoc,List.cons_append,List.nil_append,nk]
 rw[Ok bC (by rw[lf]; decide) (by omega),okB,mC,okB,ao2 cO (by omega),okB,uD,okB,p0 bA,okB,xx J (by omega),okB]
theorem Fa {z:Int}(aw: -1000000<z) (J:z<1000000) (r:bH):mD 0 (nr z++r)= .ok z r:=by
 unfold nr
 by_cases aB:z<0
 ·rw[if_pos aB]
  simp only[List.cons_append,List.nil_append,mD,lf,decide_true,if_true,List.tail_cons]
  rw[xy,okB]
  have:IntKind.i64.wrap (0-(kr (-z)).val)=z:=by
   show IntKind.i64.wrap (0- -z)=z
   rw[IntKind.wrap_i64]
   omega
  rw[this]
 ·rw[if_neg aB]
  simp only[List.cons_append,List.nil_append,mD,EE]
  rw[if_neg (by decide),xy,okB]
  rfl
theorem ae6 (z:Int) (r:bH):qN 3 (nr z++r)=false:=by
 unfold nr
 split<;>rfl
theorem ap2 {v:cb}(aY:iN v=true) (r:bH):qW 0 ((q4 v).tail++r)= .ok v r:=by
 obtain⟨aw,J,aa,au,bn,aC,ai⟩:=K5 aY
 have xg:r7 0 (tr v.ik v.n v.s++cy [59]::r)= .ok (v.ik,v.n,v.s) (cy [59]::r):=by
  rcases ai with ⟨k,a,b,c⟩|⟨k,a,b⟩
  ·have e:tr v.ik v.n v.s=nr v.n:=if_neg (by omega)
   rw[e,r7,if_neg (by rw[ae6]; decide),Fa a b,okB,k,c]
  ·have e:tr v.ik v.n v.s=[p6 v.s]:=if_pos k
   rw[e,r7,List.cons_append,List.nil_append,if_pos (by rfl),N5,okB,k,a]
   rfl
 have ZT:r8 0 (dH (if v.hV=2 then[116,101,120,116] else[105,110,116])::(nr v.cz++cy [46,46]::(nr v.ai++cy [61]::(tr v.ik v.n v.s++cy [59]::r))))= .ok (v.hV,v.cz,v.ai) (cy [61]::(tr v.ik v.n v.s++cy [59]::r)):=by
  unfold r8
  rcases aC with k|⟨k,a,b⟩
  ·rw[if_neg (c:=v.hV=2) (by omega),kb,if_neg (by decide),uD,okB,Fa J aa,okB,mC,okB,Fa au bn,okB,k]
  ·have ar:nr v.cz=[kr v.cz]:=if_neg (by omega)
   have ax:nr v.ai=[kr v.ai]:=if_neg (by omega)
   rw[if_pos (c:=v.hV=2) k,kb,if_pos (by decide),ar,ax]
   simp only[List.tail_cons,List.cons_append,List.nil_append]
   rw[xy,okB,mC,okB,xy,okB,k]
   rfl
 simp only[q4,List.tail_cons,List.append_assoc,List.cons_append,List.nil_append,qW]
 rw[p0 aw,okB,mC,okB,ZT,okB,mC,okB,xg,okB,mC,okB]
theorem Oy: ∀(ay:List cb),ay.all iN=true→∀(n m:Nat) (acc:List cb) (r:bH),eQ [118,97,114] r=false→ay.length+1≤m→lp 0 n m acc ((ay.map q4).flatten++r)= .ok (acc++ay) r
 |[],_,n,m,acc,r,ag,hm=>by
  obtain⟨m,rfl⟩: ∃k,m=k+1:=⟨m-1,by omega⟩
  simp only[List.map_nil,List.flatten_nil,List.nil_append,List.append_nil,lp]
  exact if_neg (by rw[ag]; decide)
 |v::ay,aY,n,m,acc,r,ag,hm=>by
  obtain⟨m,rfl⟩: ∃k,m=k+1:=⟨m-1,by omega⟩
  simp only[List.length_cons]at hm
  simp only[List.all_cons,Bool.and_eq_true]at aY
  have e:q4 v=dH [118,97,114]::(q4 v).tail:=rfl
  simp only[List.map_cons,List.flatten_cons,List.append_assoc,lp]
  rw[e]
  simp only[List.cons_append,kb,decide_true,if_true,List.tail_cons]
  rw[ap2 aY.1,okB,Oy ay aY.2 n m _ r ag (by omega),List.append_assoc]
  rfl
inductive hJ where
 |h (x:cd)
 |o (x:ca)
def hJ.tq:hJ→bH
 | .h x=>uP x
 | .o x=>uQ x
def hJ.wX:hJ→Bool
 | .h x=>jZ x
 | .o x=>j6 x
def q0:List hJ→List cd
 |[]=>[]
 | .h x::l=>x::q0 l
 | .o _::l=>q0 l
def p1:List hJ→List ca
 |[]=>[]
 | .h _::l=>p1 l
 | .o x::l=>x::p1 l
theorem E6: ∀(l:List hJ),l.all hJ.wX=true→∀(ap:List cd) (os:List ca) (r:bH),∃cD,∀n m,cD≤n→l.length+1≤m→ln 0 n m ap os ((l.map hJ.tq).flatten++cy [125]::r)= .ok (ap++q0 l,os++p1 l) r
 |[],_,ap,os,r=>⟨0,fun n m _ hm=>by
  obtain⟨m,rfl⟩: ∃k,m=k+1:=⟨m-1,by omega⟩
  simp only[List.map_nil,List.flatten_nil,List.nil_append,q0,p1,List.append_nil,ln,lf,decide_true,if_true,List.tail_cons]⟩
 | .h x::l,aY,ap,os,r=>by
  simp only[List.all_cons,Bool.and_eq_true,hJ.wX]at aY
  obtain⟨cD,aw⟩:=E6 l aY.2 (ap++[x]) os r
  obtain⟨li,J⟩:=an0 aY.1 ((l.map hJ.tq).flatten++cy [125]::r)
  refine⟨max cD li,fun n m a6 hm=> ?_⟩
  obtain⟨m,rfl⟩: ∃k,m=k+1:=⟨m-1,by omega⟩
  simp only[List.length_cons]at hm
  have e:uP x=dH [111,110]::(uP x).tail:=rfl
  simp only[List.map_cons,hJ.tq,List.flatten_cons,List.append_assoc,ln]
  rw[e]
  simp only[List.cons_append,kb,List.tail_cons]
  rw[if_neg (by decide),if_pos (by decide),J n (by omega),okB,aw n m (by omega) (by omega)]
  simp only[q0,p1,List.append_assoc,List.cons_append,List.nil_append]
 | .o x::l,aY,ap,os,r=>by
  simp only[List.all_cons,Bool.and_eq_true,hJ.wX]at aY
  obtain⟨cD,aw⟩:=E6 l aY.2 ap (os++[x]) r
  obtain⟨li,J⟩:=an8 aY.1 ((l.map hJ.tq).flatten++cy [125]::r)
  refine⟨max cD li,fun n m a6 hm=> ?_⟩
  obtain⟨m,rfl⟩: ∃k,m=k+1:=⟨m-1,by omega⟩
  simp only[List.length_cons]at hm
  have e:uQ x=dH [111,102,102,101,114]::(uQ x).tail:=rfl
  simp only[List.map_cons,hJ.tq,List.flatten_cons,List.append_assoc,ln]
  rw[e]
  simp only[List.cons_append,kb]
  rw[if_neg (by decide),if_neg (by decide),uD,okB,J n (by omega),okB,aw n m (by omega) (by omega)]
  simp only[q0,p1,List.append_assoc,List.cons_append,List.nil_append]
theorem aj5 (l:List hJ) (r:bH):eQ [118,97,114] ((l.map hJ.tq).flatten++cy [125]::r)=false:=by
 cases l with
 |nil=>rfl
 |cons x l=>cases x<;>rfl
theorem ao8 {a b c:a7}(aP:db a=true) (hb:db b=true) (ah:db c=true){ay:List cb}(af:ay.all iN=true){l:List hJ}(aH:l.all hJ.wX=true): ∃n,lo 0 n (vZ a b c++((ay.map q4).flatten++((l.map hJ.tq).flatten++[cy [125]])))= .ok ⟨a,b,c,ay,q0 l,p1 l⟩ []:=by
 obtain⟨cD,aw⟩:=E6 l aH [] [] []
 refine⟨max cD (max (ay.length+1) (l.length+1)),?_⟩
 simp only[vZ,List.cons_append,List.nil_append,lo]
 rw[uD,okB,p0 aP,okB,uD,okB,p0 hb,okB,uD,okB,p0 ah,okB,mC,okB,Oy ay af _ _ [] _ (aj5 l []) (by omega),okB,aw _ _ (by omega) (by omega),okB]
 rfl
theorem aq1 {a b c:a7}(aP:db a=true) (hb:db b=true) (ah:db c=true){ay:List cb}(af:ay.all iN=true){l:List hJ}(aH:l.all hJ.wX=true){kW:List ba}(Ew:kW.map ba.c=vZ a b c++((ay.map q4).flatten++((l.map hJ.tq).flatten++[cy [125]]))) (en:Int):lo en (3*kW.length+2) kW= .ok ⟨a,b,c,ay,q0 l,p1 l⟩ []:=by
 obtain⟨n,a6⟩:=ao8 aP hb ah af aH
 rw[←Ew]at a6
 have J:=ao7 en 0 n kW
 rw[a6]at J
 have aa:lo en n kW= .ok ⟨a,b,c,ay,q0 l,p1 l⟩ []:=by
  cases hp:lo en n kW with
  |out=>rw[hp]at J; exact J.elim
  |err p e=>rw[hp]at J; exact J.elim
  |ok x r=>
   rw[hp]at J
   obtain⟨ar,ax⟩:=J
   have:r=[]:=by
    cases r with
    |nil=>rfl
    |cons t r=>simp at ax
   rw[this,ar]
 have au:=Oq (en:=en) (n:=3*kW.length+2) (l:=kW) (Nat.le_refl _)
 have bn:=Ot au (Nat.le_max_left (3*kW.length+2) n)
 have bL:=Ot (en:=en) (n:=n) (l:=kW) (by rw[aa]; exact fr) (Nat.le_max_right (3*kW.length+2) n)
 rw[←bn,bL,aa]
theorem ar6 (ap:List cd) (os:List ca):q0 (ap.map hJ.h++os.map hJ.o)=ap∧p1 (ap.map hJ.h++os.map hJ.o)=os:=by
 induction ap with
 |nil=>
  induction os with
  |nil=>exact⟨rfl,rfl⟩
  |cons o os cv=>exact⟨cv.1,by simp only[List.map_cons,List.map_nil,List.nil_append]at cv ⊢; simp only[p1]; rw[cv.2]⟩
 |cons h ap cv=>exact⟨by simp only[List.map_cons,List.cons_append,q0,cv.1],by simp only[List.map_cons,List.cons_append,p1,cv.2]⟩
theorem aq0 {x:e9}(h:kJ x=true):tb (iK x)=(x,0,0):=by
 have aY:=h
 simp only[kJ,Bool.and_eq_true,decide_eq_true_eq]at h
 obtain⟨J,aa,au⟩:=h
 obtain⟨kW,ar,ax⟩:=aT.fin (aT.tp J aa) au
 simp only[qX,Bool.and_eq_true]at J
 simp only[py,Bool.and_eq_true]at aa
 have aH:((x.ap.map hJ.h++x.os.map hJ.o).all hJ.wX)=true:=by
  rw[List.all_append,List.all_map,List.all_map]
  exact Bool.and_eq_true _ _▸⟨aa.2.1,aa.2.2⟩
 have Ew:kW.map ba.c=vZ x.name x.hD x.hA++((x.vars.map q4).flatten++(((x.ap.map hJ.h++x.os.map hJ.o).map hJ.tq).flatten++[cy [125]])):=by
  rw[ax,Gg,List.map_append,List.flatten_append,List.map_map,List.map_map,List.append_assoc]
  rfl
 have hp:=aq1 J.1 J.2.1 J.2.2.1 aa.1 aH Ew ((iK x).length:Int)
 obtain⟨fR,il⟩:=ar6 x.ap x.os
 rw[fR,il]at hp
 unfold tb
 rw[ar]
 simp only[BX,hp]
 rw[if_pos aY]
end Go.bc
namespace Go.bc.T.N
open Go Go.bc Go.Proofs Go.RowKit
set_option maxRecDepth 100000
attribute [local irreducible] Go.bc.aj Go.bc.ae Go.bc.bz
section
attribute [local go_sem] ad.ct ac.ct ad.b9 ac.b9 cj eN
theorem OR (z:Int):Pure Tryz.prog 139 [.int .u8 z] (.bool (xr z)):=by
 refine cF bN Tryz.func139 Uq rfl rfl ?_
 unfold Jh PR
 simp(disch:=omega)only[go_sem,simprocAttr]
 (repeat' first|refine D.S ?_|refine D.cN true true ?_|refine ae.nil ?_|refine aj.b6 ?_|refine D.W ?_|refine D.Z ?_|refine D.G ?_ ?_|refine D.X ‹_› ?_|refine D.eh ‹_› ?_|refine D.ei ‹_› ?_|intro h|refine D.C ?_ ?_)
 all_goals (refine D.R ?_)
 all_goals (refine⟨_,rfl,.av ?_ rfl,trivial,trivial⟩; simp_all [xr,I.av]<;>(try omega))
theorem au2 (z:Int):Pure Tryz.prog 141 [.int .u8 z] (.bool (vc z)):=by
 refine cF bN Tryz.func141 Ut rfl rfl ?_
 unfold Jj PU
 simp(disch:=omega)only[go_sem,simprocAttr]
 (repeat' first|refine D.S ?_|refine D.cN true true ?_|refine ae.nil ?_|refine aj.b6 ?_|refine D.W ?_|refine D.Z ?_|refine D.G ?_ ?_|refine D.X ‹_› ?_|refine D.eh ‹_› ?_|refine D.ei ‹_› ?_|intro h|refine D.C ?_ ?_)
 all_goals (refine D.R ?_)
 all_goals (refine⟨_,rfl,.av ?_ rfl,trivial,trivial⟩; simp_all [vc,I.av]<;>(try omega))
theorem au1 (z:Int):Pure Tryz.prog 140 [.int .u8 z] (.bool (uu z)):=by
 refine cF bN Tryz.func140 Us rfl rfl ?_
 unfold Ji PT
 simp(disch:=omega)only[go_sem,simprocAttr]
 refine ao ?_
 refine D.P (OR z) ?_
 (repeat' first|refine D.S ?_|refine D.cN true true ?_|refine ae.nil ?_|refine aj.b6 ?_|refine D.W ?_|refine D.Z ?_|refine D.G ?_ ?_|refine D.X ‹_› ?_|refine D.eh ‹_› ?_|refine D.ei ‹_› ?_|intro h|refine D.C ?_ ?_)
 ·first|refine D.R ?_|refine D.E ?_
  refine⟨_,rfl,.av ?_ rfl,trivial,trivial⟩
  simp_all [uu,I.av]
 refine D.P (au2 z) ?_
 (repeat' first|refine D.S ?_|refine D.cN true true ?_|refine ae.nil ?_|refine aj.b6 ?_|refine D.W ?_|refine D.Z ?_|refine D.G ?_ ?_|refine D.X ‹_› ?_|refine D.eh ‹_› ?_|refine D.ei ‹_› ?_|intro h|refine D.C ?_ ?_)
 all_goals (refine D.R ?_)
 all_goals (refine⟨_,rfl,.av ?_ rfl,trivial,trivial⟩; simp_all [uu,I.av]<;>(try omega))
theorem at6 (l:List a7) (s:a7) (aH:l.length≤1000000000):Pure Tryz.prog 133 [.ay 1 (l.map cj),.str s] (.bool (l.contains s)):=by
 refine cF bN Tryz.func133 Uk (by simp only[b3,I.flat,eN,Bool.and_self]) rfl ?_
 unfold Jb PL
 simp(disch:=omega)only[go_sem,simprocAttr]
 refine ao ?_
 refine aj.dd (X:=Nat) 0 (fun i=>[(0,.ay 1 (l.map cj)),(1,.str s),(5,.int .i64 (i:Int))]) (fun _=>[]) (fun _=>[]) (fun i=>i≤l.length∧(l.drop i).contains s=l.contains s) (fun i=>l.length-i) ⟨Nat.zero_le _,rfl⟩ ⟨rfl,rfl,rfl,trivial⟩ trivial trivial ?_
 rintro i ⟨ai,aB⟩
 try simp only at ai aB ⊢
 cases af:l[i]? with
 |some v=>
  have cK:=(List.getElem?_eq_some_iff.1 af).1
  have d1:(i:Int)<((l.map cj).length:Int):=by rw[List.length_map]; omega
  rw[iM af]at aB
  by_cases ab:v=s
  ·simp only[List.contains_cons,ab,beq_self_eq_true,Bool.true_or]at aB
   (have al:=d1;have z2:=ab;refine e8 ?_;clear al z2)
   first|refine D.R ?_|refine D.E ?_
   exact⟨_,rfl,.av (by rw[←aB]; rfl) rfl,trivial,trivial⟩
  ·have hQ:(s==v)=false:=by simpa using fun e:s=v=>ab e.symm
   simp only[List.contains_cons,hQ,Bool.false_or]at aB
   (have al:=d1;have z2:=ab;refine e8 ?_;clear al z2)
   refine aj.dK (i+1) ⟨by omega,aB⟩ ⟨rfl,rfl,by simp only[Int.natCast_add]; rfl,trivial⟩ trivial trivial rfl rfl (by show l.length-(i+1)<l.length-i; omega)
 |none=>
  have cM:=List.getElem?_eq_none_iff.1 af
  have bE:i=l.length:=by omega
  subst bE
  have d1: ¬(l.length:Int)<((l.map cj).length:Int):=by rw[List.length_map]; omega
  rw[List.drop_length]at aB
  (have al:=d1;refine bQ ?_;clear al)
  first|refine D.R ?_|refine D.E ?_
  exact⟨_,rfl,.av (by rw[←aB]; rfl) rfl,trivial,trivial⟩
theorem at7:Pure Tryz.prog 134 [] (.ay 1 (r2.map cj)):=by
 refine cF bN Tryz.func134 Ul rfl rfl ?_
 unfold Jc PM
 simp(disch:=omega)only[go_sem,simprocAttr]
 refine ao ?_
 first|refine D.R ?_|refine D.E ?_
 exact⟨_,rfl,.av rfl rfl,trivial,trivial⟩
theorem at5 (s:a7):Pure Tryz.prog 132 [.str s] (.bool (mx s)):=by
 cases s with
 |nil=>
  refine cF bN Tryz.func132 HG rfl rfl ?_
  unfold DA FH
  simp(disch:=omega)only[go_sem,simprocAttr]
  refine ao ?_
  first|refine D.R ?_|refine D.E ?_
  exact⟨_,rfl,.av rfl rfl,trivial,trivial⟩
 |cons c s=>
 have bW:mx (c::s)=(decide ((c::s).length≤16)&&(l1 c&&(c::s).all iO)):=rfl
 have aw:(c::s)[0]? =some c:=rfl
 have dw: ¬(c::s)=[]:=by simp
 have yz:Pure Tryz.prog 139 [.int .u8 (c.toNat:Int)] (.bool (l1 c)):=OR _
 generalize c::s=S at bW aw dw
 rw[bW]
 refine cF bN Tryz.func132 HG rfl rfl ?_
 unfold DA FH
 simp(disch:=omega)only[go_sem,simprocAttr]
 (have al:=dw;refine bQ ?_;clear al)
 refine D.P (yz) ?_
 cases ek:l1 c
 ·refine ao ?_
  first|refine D.R ?_|refine D.E ?_
  exact⟨_,rfl,.av (by simp [I.av]) rfl,trivial,trivial⟩
 by_cases aH:S.length≤16
 rotate_left
 ·have d1:(16:Int)<(S.length:Int):=by omega
  (have al:=d1;refine bQ ?_;clear al)
  first|refine D.R ?_|refine D.E ?_
  exact⟨_,rfl,.av (by simp [I.av,aH]) rfl,trivial,trivial⟩
 have d1: ¬(16:Int)<(S.length:Int):=by omega
 simp only[decide_eq_true aH,Bool.true_and]
 (have al:=d1;refine bQ ?_;clear al)
 refine aj.dd (X:=Nat) 0 (fun i=>[(0,.str S),(3,.int .i64 (i:Int))]) (fun _=>[]) (fun _=>[]) (fun i=>i≤S.length∧(S.drop i).all iO=S.all iO) (fun i=>S.length-i) ⟨Nat.zero_le _,rfl⟩ ⟨rfl,rfl,trivial⟩ trivial trivial ?_
 rintro i ⟨ai,aB⟩
 try simp only at ai aB ⊢
 cases af:S[i]? with
 |some v=>
  have cK:=(List.getElem?_eq_some_iff.1 af).1
  have d2:(i:Int)<(S.length:Int):=by omega
  have AS:Pure Tryz.prog 140 [.int .u8 (v.toNat:Int)] (.bool (iO v)):=au1 _
  rw[iM af]at aB
  simp only[List.all_cons]at aB
  cases w8:iO v
  ·rw[w8]at aB AS
   (have al:=d2;refine bQ ?_;clear al)
   refine D.P (AS) ?_
   refine ao ?_
   first|refine D.R ?_|refine D.E ?_
   exact⟨_,rfl,.av (by rw[←aB]; rfl) rfl,trivial,trivial⟩
  ·rw[w8]at aB AS
   (have al:=d2;refine bQ ?_;clear al)
   refine D.P (AS) ?_
   refine ao ?_
   refine aj.dK (i+1) ⟨by omega,by simpa using aB⟩ ⟨rfl,by simp only[Int.natCast_add]; rfl,trivial⟩ trivial trivial rfl rfl (by show S.length-(i+1)<S.length-i; omega)
 |none=>
  have cM:=List.getElem?_eq_none_iff.1 af
  have bE:i=S.length:=by omega
  subst bE
  have d2: ¬(S.length:Int)<(S.length:Int):=by omega
  rw[List.drop_length]at aB
  (have al:=d2;refine bQ ?_;clear al)
  first|refine D.R ?_|refine D.E ?_
  exact⟨_,rfl,.av (by rw[←aB]; rfl) rfl,trivial,trivial⟩
theorem r9 (s:a7):Pure Tryz.prog 58 [.str s] (.bool (db s)):=by
 have ar:=at5 s
 have ax:=at6 r2 s (by decide)
 have fq:=at7
 unfold db
 generalize mx s=eB at*
 generalize r2.contains s=dU at*
 refine cF bN Tryz.func58 Vx rfl rfl ?_
 unfold Kb QY
 simp(disch:=omega)only[go_sem,simprocAttr]
 refine ao ?_
 refine D.P (ar) ?_
 cases eB
 ·refine ao ?_
  first|refine D.R ?_|refine D.E ?_
  exact⟨_,rfl,.av rfl rfl,trivial,trivial⟩
 refine ao ?_
 refine D.P (fq) ?_
 refine ao ?_
 refine D.P (ax) ?_
 refine ao ?_
 first|refine D.R ?_|refine D.E ?_
 exact⟨_,rfl,.av rfl rfl,trivial,trivial⟩
theorem au0 (s:a7):Pure Tryz.prog 136 [.str s] (.bool (db s)):=by
 refine cF bN Tryz.func136 Un rfl rfl ?_
 unfold Je PO
 simp(disch:=omega)only[go_sem,simprocAttr]
 refine ao ?_
 refine D.P (r9 s) ?_
 refine ao ?_
 first|refine D.R ?_|refine D.E ?_
 exact⟨_,rfl,.av rfl rfl,trivial,trivial⟩
theorem aG6: ∀ {u:a7}(v:a7),46∉u→iS (u++v)=(match iS v with
  |w::ws=>(u++w)::ws
  |[]=>[])
 |[],v,_=>by
  have:=zF v
  cases ap:iS v with
  |nil=>exact absurd ap this
  |cons w ws=>simp [ap]
 |c::u,v,h=>by
  simp only[List.mem_cons,not_or]at h
  have cv:=aG6 (u:=u) v h.2
  rw[List.cons_append,iS,if_neg (fun e=>h.1 e.symm),cv]
  have:=zF v
  cases ap:iS v with
  |nil=>exact absurd ap this
  |cons w ws=>rfl
theorem O4 (s:a7) (ap:s.length≤1000000000000000):Pure Tryz.prog 60 [.str s] (.bool (kR s)):=by
 obtain⟨R,an⟩: ∃R,R=(iS s).all db:=⟨_,rfl⟩
 have qD:kR s=(decide (s.length≤50)&&R):=by rw[kR,Ga,an]
 rw[qD]
 refine cF bN Tryz.func60 Df rfl rfl ?_
 unfold Kd Q0
 simp(disch:=omega)only[go_sem,simprocAttr]
 refine ao ?_
 refine aj.dd (X:=Nat×Nat) (0,0) (fun x=>[(0,.str s),(4,.int .i64 (x.1:Int)),(3,.int .i64 (x.2:Int))]) (fun _=>[]) (fun _=>[]) (fun x=>(x.1≤s.length∧x.2≤x.1∧46∉(s.take x.1).drop x.2∧R=(iS (s.drop x.2)).all db)∨(x.1=s.length+1∧R=true)) (fun x=>s.length+1-x.1) (.inl ⟨Nat.zero_le _,Nat.le_refl _,by simp,by simpa using an⟩) ⟨rfl,rfl,rfl,trivial⟩ trivial trivial ?_
 rintro⟨i,f⟩ h
 simp only at h ⊢
 rcases h with ⟨ai,aW,a6,aB⟩|⟨rfl,aB⟩
 rotate_left
 ·have d1: ¬((s.length:Int)+1≤(s.length:Int)):=by omega
  (repeat' first|(apply ae.s rfl;(·simp(disch:=omega)only[go_sem,simprocAttr,Int.natCast_add,d1]<;>with_reducible rfl))|(apply aj.s true true;(·simp(disch:=omega)only[go_sem,simprocAttr,Int.natCast_add,d1]<;>with_reducible rfl))|apply ae.nil|(refine aj.b6 ?_)|(apply ae.eX;(·simp(disch:=omega)only[go_sem,simprocAttr,Int.natCast_add,d1]<;>with_reducible rfl))|(apply ae.eY;(·rfl);(·simp(disch:=omega)only[go_sem,simprocAttr,Int.natCast_add,d1]<;>with_reducible rfl))|(apply ae.gs;(·simp(disch:=omega)only[go_sem,simprocAttr,Int.natCast_add,d1]<;>with_reducible rfl))|((first|apply ae.e3|apply ae.e4|apply ae.e5);(·simp(disch:=omega)only[go_sem,simprocAttr,Int.natCast_add,d1]<;>with_reducible rfl);(·simp(disch:=omega)only[go_sem,simprocAttr,Int.natCast_add,d1]<;>with_reducible rfl);(·assumption);(·omega))|intro h)
  first|refine D.R ?_|refine D.E ?_
  refine⟨_,rfl,.av ?_ rfl,trivial,trivial⟩
  rw[aB]
  simp only[I.av,Bool.and_true,I.bool.injEq]
  exact decide_eq_decide.2 (by omega)
 have d1:(i:Int)≤(s.length:Int):=by omega
 have gi:s.drop f=(s.take i).drop f++s.drop i:=by
  conv=>lhs; rw[←List.take_append_drop i s]
  rw[List.drop_append_of_le_length (by rw[List.length_take]; omega)]
 obtain⟨u,hu⟩: ∃u,u=(s.take i).drop f:=⟨_,rfl⟩
 rw[←hu]at a6 gi
 have KN:=au0 u
 by_cases he:i=s.length
 ·subst he
  have d1:(s.length:Int)≤(s.length:Int):=by omega
  have El:s.drop s.length=[]:=List.drop_eq_nil_of_le (by omega)
  rw[El,List.append_nil]at gi
  rw[gi,F9 a6]at aB
  simp only[List.all_cons,List.all_nil,Bool.and_true]at aB
  (have al:=d1;refine bQ ?_;clear al)
  (apply ae.uM (f) (s.length);(·simp(disch:=omega)only[go_sem,simprocAttr]<;>with_reducible rfl);(·simp(disch:=omega)only[go_sem,simprocAttr]<;>with_reducible rfl);(·simp(disch:=omega)only[go_sem,simprocAttr]<;>with_reducible rfl);(·omega);(·omega);(·omega);(·(try simp only[List.length_map]);omega))
  rw[←hu]
  refine ao ?_
  refine D.P (KN) ?_
  rw[←aB]
  cases R
  ·refine ao ?_
   first|refine D.R ?_|refine D.E ?_
   exact⟨_,rfl,.av (by simp [I.av]) rfl,trivial,trivial⟩
  ·refine ao ?_
   refine aj.dK (s.length+1,s.length+1) (by first|exact .inr ⟨rfl,rfl⟩|exact .inr rfl) ⟨rfl,by simp only[Int.natCast_add]; rfl,by simp only[Int.natCast_add]; rfl,trivial⟩ trivial trivial rfl rfl (by show s.length+1-(s.length+1)<s.length+1-s.length; omega)
 have cK:i<s.length:=by omega
 have d2: ¬(i:Int)=(s.length:Int):=by omega
 obtain⟨c,ah⟩: ∃c,s[i]? =some c:=⟨_,List.getElem?_eq_getElem cK⟩
 have YX:=iM ah
 rw[YX]at gi
 have kM:(s.take (i+1)).drop f=u++[c]:=by
  rw[List.take_add_one,ah,List.drop_append_of_le_length (by rw[List.length_take]; omega),←hu]
  rfl
 by_cases Lg:c.toNat=46
 ·have YV:c=46:=UInt8.toNat_inj.1 Lg
  subst YV
  rw[gi,F8 _ a6]at aB
  simp only[List.all_cons]at aB
  (have al:=d1;have z2:=d2;refine e8 ?_;clear al z2)
  (apply ae.uM (f) (i);(·simp(disch:=omega)only[go_sem,simprocAttr]<;>with_reducible rfl);(·simp(disch:=omega)only[go_sem,simprocAttr]<;>with_reducible rfl);(·simp(disch:=omega)only[go_sem,simprocAttr]<;>with_reducible rfl);(·omega);(·omega);(·omega);(·(try simp only[List.length_map]);omega))
  rw[←hu]
  refine ao ?_
  refine D.P (KN) ?_
  cases hw:db u
  ·rw[hw]at aB
   refine ao ?_
   first|refine D.R ?_|refine D.E ?_
   exact⟨_,rfl,.av (by rw[aB]; simp [I.av]) rfl,trivial,trivial⟩
  ·rw[hw]at aB
   refine ao ?_
   refine aj.dK (i+1,i+1) (.inl ⟨by omega,Nat.le_refl _,by simp,by simpa using aB⟩) ⟨rfl,by simp only[Int.natCast_add]; rfl,by simp only[Int.natCast_add]; rfl,trivial⟩ trivial trivial rfl rfl (by show s.length+1-(i+1)<s.length+1-i; omega)
 ·have d3: ¬(c.toNat:Int)=46:=by omega
  (have al:=d1;have z2:=d2;have z3:=d3;refine ji ?_;clear al z2 z3)
  refine aj.dK (i+1,f) (.inl ⟨by omega,by omega,?_,aB⟩) ⟨rfl,by simp only[Int.natCast_add]; rfl,rfl,trivial⟩ trivial trivial rfl rfl (by show s.length+1-(i+1)<s.length+1-i; omega)
  simp only[kM,List.mem_append,List.mem_singleton,not_or]
  exact⟨a6,fun e=>Lg (by rw[←e]; rfl)⟩
theorem av9 (s:a7) (ap:s.length≤1000000000):Pure Tryz.prog 185 [.str s] (.bool (s.all eo)):=by
 refine cF bN Tryz.func185 U0 rfl rfl ?_
 unfold JM Qr
 simp(disch:=omega)only[go_sem,simprocAttr]
 refine ao ?_
 refine aj.dd (X:=Nat) 0 (fun i=>[(0,.str s),(3,.int .i64 (i:Int))]) (fun _=>[]) (fun _=>[]) (fun i=>i≤s.length∧(s.drop i).all eo=s.all eo) (fun i=>s.length-i) ⟨Nat.zero_le _,rfl⟩ ⟨rfl,rfl,trivial⟩ trivial trivial ?_
 rintro i ⟨ai,aB⟩
 try simp only at ai aB ⊢
 cases af:s[i]? with
 |some v=>
  have cK:=(List.getElem?_eq_some_iff.1 af).1
  have d1:(i:Int)<(s.length:Int):=by omega
  rw[iM af]at aB
  simp only[List.all_cons]at aB
  by_cases J:v.toNat<32
  ·have d2:(v.toNat:Int)<32:=by omega
   have aq:eo v=false:=by simp [eo]; omega
   rw[aq]at aB
   (have al:=d1;have z2:=d2;refine e8 ?_;clear al z2)
   first|refine D.R ?_|refine D.E ?_
   exact⟨_,rfl,.av (by rw[←aB]; rfl) rfl,trivial,trivial⟩
  have d2: ¬(v.toNat:Int)<32:=by omega
  by_cases aa:126<v.toNat
  ·have d3:(126:Int)<(v.toNat:Int):=by omega
   have aq:eo v=false:=by simp [eo]; omega
   rw[aq]at aB
   (have al:=d1;have z2:=d2;have z3:=d3;refine ji ?_;clear al z2 z3)
   first|refine D.R ?_|refine D.E ?_
   exact⟨_,rfl,.av (by rw[←aB]; rfl) rfl,trivial,trivial⟩
  ·have d3: ¬(126:Int)<(v.toNat:Int):=by omega
   have aq:eo v=true:=by simp [eo]; omega
   rw[aq,Bool.true_and]at aB
   (have al:=d1;have z2:=d2;have z3:=d3;refine ji ?_;clear al z2 z3)
   refine aj.dK (i+1) ⟨by omega,aB⟩ ⟨rfl,by simp only[Int.natCast_add]; rfl,trivial⟩ trivial trivial rfl rfl (by show s.length-(i+1)<s.length-i; omega)
 |none=>
  have cM:=List.getElem?_eq_none_iff.1 af
  have bE:i=s.length:=by omega
  subst bE
  have d1: ¬(s.length:Int)<(s.length:Int):=by omega
  rw[List.drop_length]at aB
  (have al:=d1;refine bQ ?_;clear al)
  first|refine D.R ?_|refine D.E ?_
  exact⟨_,rfl,.av (by rw[←aB]; rfl) rfl,trivial,trivial⟩
def so (k n:Int) (s:a7):Bool:=if k=1 then decide (-1000≤n)&&(decide (n≤1000)&&decide (s=[])) else if k=2 then decide (n=0)&&lM s else false
theorem OQ (k n:Int) (s:a7):Pure Tryz.prog 135 [.agg [.int .i64 k,.int .i64 n,.str s]] (.bool (so k n s)):=by
 have e:s.length≤40→Pure Tryz.prog 185 [.str s] (.bool (s.all eo)):=fun h=>av9 s (by omega)
 unfold so lM
 generalize s.all eo=b at*
 refine cF bN Tryz.func135 Um rfl rfl ?_
 unfold Jd PN
 simp(disch:=omega)only[go_sem,simprocAttr]
 by_cases bC:k=1
 ·subst bC
  by_cases J: -1000≤n
  rotate_left
  ·(have al:=J;refine bQ ?_;clear al)
   first|refine D.R ?_|refine D.E ?_
   exact⟨_,rfl,.av (by simp [I.av,J]) rfl,trivial,trivial⟩
  by_cases aa:n≤1000
  rotate_left
  ·(have al:=J;have z2:=aa;refine e8 ?_;clear al z2)
   first|refine D.R ?_|refine D.E ?_
   exact⟨_,rfl,.av (by simp [I.av,aa]) rfl,trivial,trivial⟩
  (have al:=J;have z2:=aa;refine e8 ?_;clear al z2)
  first|refine D.R ?_|refine D.E ?_
  exact⟨_,rfl,.av (by simp [I.av,J,aa]) rfl,trivial,trivial⟩
 by_cases bA:k=2
 ·subst bA
  by_cases J:n=0
  rotate_left
  ·(have al:=J;refine bQ ?_;clear al)
   first|refine D.R ?_|refine D.E ?_
   exact⟨_,rfl,.av (by simp [I.av,J]) rfl,trivial,trivial⟩
  by_cases aa:s.length≤40
  rotate_left
  ·have d2: ¬(s.length:Int)≤40:=by omega
   (have al:=J;have z2:=d2;refine e8 ?_;clear al z2)
   first|refine D.R ?_|refine D.E ?_
   exact⟨_,rfl,.av (by simp [I.av,aa]) rfl,trivial,trivial⟩
  have d2:(s.length:Int)≤40:=by omega
  (have al:=J;have z2:=d2;refine e8 ?_;clear al z2)
  refine D.P (e aa) ?_
  refine ao ?_
  first|refine D.R ?_|refine D.E ?_
  exact⟨_,rfl,.av (by simp [I.av,J,aa]) rfl,trivial,trivial⟩
 (have al:=bC;have z2:=bA;refine e8 ?_;clear al z2)
 first|refine D.R ?_|refine D.E ?_
 exact⟨_,rfl,.av (by simp [I.av,bC,bA]) rfl,trivial,trivial⟩
end
section
attribute [local go_sem] ad.ct ad.b9 ad.de ac.ct ac.b9 ac.de cj eN fZ gJ dp of_flat
theorem Xq:(List.range 10).all (fun d=>(Utf8.encode (48+(d:Int))).data.toList==[UInt8.ofNat (48+d)])=true:=by kernel_rfl
theorem Xs {d:Nat}(h:d<10):(Utf8.encode (48+(d:Int))).data.toList=[UInt8.ofNat (48+d)]:=by
 have:=List.all_eq_true.1 Xq d (List.mem_range.2 h)
 simpa only[beq_iff_eq] using this
theorem ac1 {n:Nat}(h:n<10):Lib.itoa (n:Int)=[UInt8.ofNat (48+n)]:=by
 unfold Lib.itoa
 rw[if_neg (by omega),Int.toNat_natCast,wK h]
theorem ab9 {n:Nat}(h: ¬n<10):Lib.itoa (n:Int)=Lib.itoa ((n/10:Nat):Int)++[UInt8.ofNat (48+n%10)]:=by
 unfold Lib.itoa
 rw[if_neg (by omega),if_neg (by omega),Int.toNat_natCast,Int.toNat_natCast,yw h]
theorem Mt {n:Nat}(h:1≤n):Lib.itoa (-(n:Int))=45::Lib.decDigits n:=by
 unfold Lib.itoa
 rw[if_pos (by omega)]
 simp
theorem aJ5 (m:Nat):(-(m:Int)).tdiv 10= -((m/10:Nat):Int):=by rw[Int.neg_tdiv]; rfl
theorem ma (m:Nat):(-(m:Int)).tmod 10= -((m%10:Nat):Int):=by rw[Int.neg_tmod]; rfl
theorem aJ6 (m:Nat):(m:Int).tdiv 10=((m/10:Nat):Int):=rfl
theorem aJ7 (m:Nat):(m:Int).tmod 10=((m%10:Nat):Int):=rfl
theorem aM4 {d:Int}(aw:0≤d) (J:d<10):IntKind.i32.wrap (48+d)=48+d:=by
 simp only[IntKind.wrap,IntKind.bits,IntKind.signed]
 simp
 omega
attribute [local go_sem] aM4 Xs Int.sub_neg aJ5 ma aJ6 aJ7
theorem ay6: ∀n:Nat,n≤1000000000→Pure Tryz.prog 75 [.int .i64 (n:Int)] (.str (Lib.itoa (n:Int))):=by
 intro n
 induction n using Nat.strongRecOn with
 |ind n cv=>
 intro a6
 have J: ¬(n:Int)< -9:=by omega
 have aa: ¬(n:Int)<0:=by omega
 refine cF bN Tryz.func75 HK rfl rfl ?_
 unfold DE FL
 simp(disch:=omega)only[go_sem,simprocAttr]
 by_cases rM:n<10
 ·have au:(n:Int)<10:=by omega
  rw[ac1 rM]
  (have al:=J;have z2:=aa;have z3:=au;refine ji ?_;clear al z2 z3)
  first|refine D.R ?_|refine D.E ?_
  exact⟨_,rfl,.av rfl rfl,trivial,trivial⟩
 ·have au: ¬(n:Int)<10:=by omega
  have e:=cv (n/10) (by omega) (by omega)
  have aH:=Lib.itoa_length_le ((n/10:Nat):Int) (by omega) (by omega)
  rw[ab9 rM]
  generalize Lib.itoa ((n/10:Nat):Int)=s at*
  (have al:=J;have z2:=aa;have z3:=au;refine ji ?_;clear al z2 z3)
  refine D.P (e) ?_
  refine ao ?_
  refine D.bR ?_
  refine ao ?_
  first|refine D.R ?_|refine D.E ?_
  exact⟨_,rfl,.av rfl rfl,trivial,trivial⟩
theorem ay5: ∀n:Nat,1≤n→n≤1000000000→Pure Tryz.prog 75 [.int .i64 (-(n:Int))] (.str (Lib.itoa (-(n:Int)))):=by
 intro n
 induction n using Nat.strongRecOn with
 |ind n cv=>
 intro hp a6
 rw[Mt hp]
 refine cF bN Tryz.func75 HK rfl rfl ?_
 unfold DE FL
 simp(disch:=omega)only[go_sem,simprocAttr]
 by_cases rM:n<10
 ·have J: ¬ -(n:Int)< -9:=by omega
  have aa: -(n:Int)<0:=by omega
  rw[wK rM]
  (have al:=J;have z2:=aa;refine e8 ?_;clear al z2)
  refine D.bR ?_
  refine ao ?_
  first|refine D.R ?_|refine D.E ?_
  exact⟨_,rfl,.av rfl rfl,trivial,trivial⟩
 ·have J: -(n:Int)< -9:=by omega
  have e:=cv (n/10) (by omega) (by omega) (by omega)
  have aH:=Lib.itoa_length_le (-((n/10:Nat):Int)) (by omega) (by omega)
  rw[Mt (by omega)]at aH e
  rw[yw rM]
  generalize Lib.decDigits (n/10)=s at*
  (have al:=J;refine bQ ?_;clear al)
  refine D.P (e) ?_
  refine ao ?_
  simp only[List.length_cons]at aH
  refine D.bR ?_
  refine ao ?_
  first|refine D.R ?_|refine D.E ?_
  exact⟨_,rfl,.av rfl rfl,trivial,trivial⟩
theorem zw (n:Int) (aw: -1000000000≤n) (J:n≤1000000000):Pure Tryz.prog 75 [.int .i64 n] (.str (Lib.itoa n)):=by
 by_cases h:0≤n
 ·obtain⟨m,rfl⟩:=Int.eq_ofNat_of_zero_le h
  exact ay6 m (by omega)
 ·obtain⟨m,hm⟩:=Int.eq_ofNat_of_zero_le (a:= -n) (by omega)
  have:n= -(m:Int):=by omega
  subst this
  exact ay5 m (by omega) (by omega)
theorem O9 (s:a7) (ap:s.length≤100000000):Pure Tryz.prog 76 [.str s] (.str (p4 s)):=by
 refine cF bN Tryz.func76 VL rfl rfl ?_
 unfold Kp Re
 simp(disch:=omega)only[go_sem,simprocAttr]
 refine ao ?_
 refine aj.dd (X:=Nat×a7) (0,[34]) (fun x=>[(0,.str s),(3,.str x.2),(4,.int .i64 (x.1:Int))]) (fun _=>[]) (fun _=>[]) (fun x=>x.1≤s.length∧x.2=[34]++iC (s.take x.1)) (fun x=>s.length-x.1) ⟨Nat.zero_le _,rfl⟩ ⟨rfl,rfl,rfl,trivial⟩ trivial trivial ?_
 rintro⟨i,o⟩ ⟨ai,aB⟩
 try simp only at ai aB ⊢
 have aH:o.length≤300000000:=by
  have:=xG (s.take i)
  rw[aB,List.length_append,List.length_cons,List.length_nil]
  rw[List.length_take]at this
  omega
 cases af:s[i]? with
 |some v=>
  have cK:=(List.getElem?_eq_some_iff.1 af).1
  have d1:(i:Int)<(s.length:Int):=by omega
  have kM:(s.take (i+1))=s.take i++[v]:=by rw[List.take_add_one,af]; rfl
  have pS:(s.take (i+1)).drop i=[v]:=by
   rw[kM,List.drop_append_of_le_length (by rw[List.length_take]; omega),List.drop_eq_nil_of_le (by rw[List.length_take]; omega)]
   rfl
  have bG:iC [v]=if v.toNat=34∨v.toNat=92 then[92,v] else[v]:=by simp only[iC,List.append_nil]
  have mv:[34]++iC (s.take (i+1))=o++iC [v]:=by rw[kM,FF,←List.append_assoc,aB]
  rw[bG]at mv
  by_cases J:v.toNat=34
  ·have d2:(v.toNat:Int)=34:=by omega
   rw[if_pos (.inl J)]at mv
   (have al:=d1;have z2:=d2;refine e8 ?_;clear al z2)
   refine D.bR ?_
   refine ao ?_
   (apply ae.uM (i) (i+1);(·simp(disch:=omega)only[go_sem,simprocAttr]<;>with_reducible rfl);(·simp(disch:=omega)only[go_sem,simprocAttr]<;>with_reducible rfl);(·simp(disch:=omega)only[go_sem,simprocAttr]<;>with_reducible rfl);(·omega);(·omega);(·omega);(·(try simp only[List.length_map]);omega))
   rw[pS]
   refine ao ?_
   refine D.bR ?_
   refine ao ?_
   refine aj.dK (i+1,o++[92]++[v]) ⟨by omega,by simpa using mv.symm⟩ ⟨rfl,rfl,by simp only[Int.natCast_add]; rfl,trivial⟩ trivial trivial rfl rfl (by show s.length-(i+1)<s.length-i; omega)
  have d2: ¬(v.toNat:Int)=34:=by omega
  by_cases aa:v.toNat=92
  ·have d3:(v.toNat:Int)=92:=by omega
   rw[if_pos (.inr aa)]at mv
   (have al:=d1;have z2:=d2;have z3:=d3;refine ji ?_;clear al z2 z3)
   refine D.bR ?_
   refine ao ?_
   (apply ae.uM (i) (i+1);(·simp(disch:=omega)only[go_sem,simprocAttr]<;>with_reducible rfl);(·simp(disch:=omega)only[go_sem,simprocAttr]<;>with_reducible rfl);(·simp(disch:=omega)only[go_sem,simprocAttr]<;>with_reducible rfl);(·omega);(·omega);(·omega);(·(try simp only[List.length_map]);omega))
   rw[pS]
   refine ao ?_
   refine D.bR ?_
   refine ao ?_
   refine aj.dK (i+1,o++[92]++[v]) ⟨by omega,by simpa using mv.symm⟩ ⟨rfl,rfl,by simp only[Int.natCast_add]; rfl,trivial⟩ trivial trivial rfl rfl (by show s.length-(i+1)<s.length-i; omega)
  ·have d3: ¬(v.toNat:Int)=92:=by omega
   rw[if_neg (by omega)]at mv
   (have al:=d1;have z2:=d2;have z3:=d3;refine ji ?_;clear al z2 z3)
   (apply ae.uM (i) (i+1);(·simp(disch:=omega)only[go_sem,simprocAttr]<;>with_reducible rfl);(·simp(disch:=omega)only[go_sem,simprocAttr]<;>with_reducible rfl);(·simp(disch:=omega)only[go_sem,simprocAttr]<;>with_reducible rfl);(·omega);(·omega);(·omega);(·(try simp only[List.length_map]);omega))
   rw[pS]
   refine ao ?_
   refine D.bR ?_
   refine ao ?_
   refine aj.dK (i+1,o++[v]) ⟨by omega,by simpa using mv.symm⟩ ⟨rfl,rfl,by simp only[Int.natCast_add]; rfl,trivial⟩ trivial trivial rfl rfl (by show s.length-(i+1)<s.length-i; omega)
 |none=>
  have cM:=List.getElem?_eq_none_iff.1 af
  have bE:i=s.length:=by omega
  subst bE
  have d1: ¬(s.length:Int)<(s.length:Int):=by omega
  rw[List.take_length]at aB
  (have al:=d1;refine bQ ?_;clear al)
  refine D.bR ?_
  refine ao ?_
  first|refine D.R ?_|refine D.E ?_
  exact⟨_,rfl,.av (by rw[aB]; rfl) rfl,trivial,trivial⟩
end
section
attribute [local go_sem] ad.ct ad.b9 ad.de ac.ct ac.b9 ac.de cj eN fZ gJ dp of_flat
theorem th: ∀(N:Nat),(∀x:ad,x.bI≤N→dB x=true→(cm x).length≤1000000000→Pure Tryz.prog 28 [.agg x.row] (.str (cm x)))∧(∀(x:ad) (k:Int),x.bI≤N→dB x=true→(fX x (cm x) k).length≤1000000000→Pure Tryz.prog 77 [.agg x.row,.int .i64 k] (.str (fX x (cm x) k)))
 |0=>⟨fun x h=>by cases x; simp only[ad.bI]at h; omega,fun x k h=>by cases x; simp only[ad.bI]at h; omega⟩
 |N+1=>by
  have key: ∀x:ad,x.bI≤N+1→dB x=true→(cm x).length≤1000000000→Pure Tryz.prog 28 [.agg x.row] (.str (cm x)):=by
   rintro⟨k,o,m,t,n,l⟩ bW aY ap
   simp only[ad.bI]at bW
   simp only[dB,Bool.and_eq_true]at aY
   obtain⟨bh,hq⟩:=aY
   simp only[cm,Cn]at ap ⊢
   have qL:=ap
   unfold A4 at ap ⊢
   refine cF bN Tryz.func28 Vc (by simp only[b3,I.flat,ad.de,Bool.and_self]) rfl ?_
   unfold JX QD
   simp(disch:=omega)only[go_sem,simprocAttr]
   rcases Ec bh with ⟨rfl,aw,J,aa⟩|⟨rfl,aw,J⟩|⟨rfl,aw⟩|⟨rfl,aw⟩|⟨rfl,aw⟩|⟨rfl,aw⟩
   ·refine ao ?_
    refine D.P (zw n (by omega) (by omega)) ?_
    refine ao ?_
    first|refine D.R ?_|refine D.E ?_
    exact⟨_,rfl,.av rfl rfl,trivial,trivial⟩
   ·refine ao ?_
    refine D.P (O9 t (by omega)) ?_
    refine ao ?_
    first|refine D.R ?_|refine D.E ?_
    exact⟨_,rfl,.av rfl rfl,trivial,trivial⟩
   ·refine ao ?_
    first|refine D.R ?_|refine D.E ?_
    exact⟨_,rfl,.av rfl rfl,trivial,trivial⟩
   ·match l,aw with
    |[x],_=>
    simp only[mY,Bool.and_true]at hq
    simp only[ad.bB]at bW
    have hY:([108,101,110,40]++cm x++[41]).length≤1000000000:=ap
    simp only[List.length_append,List.length_cons,List.length_nil]at hY
    have e:=(th N).1 x (by omega) hq (by omega)
    rcases x with ⟨eb,ef,ed,eg,ee,ec⟩
    simp(disch:=omega)only[go_sem,simprocAttr]at e
    refine ao ?_
    refine D.P (e) ?_
    refine D.bR ?_
    refine D.bR ?_
    refine ao ?_
    first|refine D.R ?_|refine D.E ?_
    exact⟨_,rfl,.av rfl rfl,trivial,trivial⟩
   ·match l,aw with
    |[x],_=>
    simp only[mY,Bool.and_true]at hq
    simp only[ad.bB]at bW
    have hY:(o++fX x (cm x) 7).length≤1000000000:=ap
    simp only[List.length_append]at hY
    have e:=(th N).2 x 7 (by omega) hq (by omega)
    show aj Tryz.prog _ _ _ _ (tJ (.str (o++fX x (cm x) 7)) [] []) _ _
    generalize fX x (cm x) 7=iD at e hY ⊢
    clear ap qL
    rcases x with ⟨eb,ef,ed,eg,ee,ec⟩
    simp(disch:=omega)only[go_sem,simprocAttr]at e
    iterate 6 refine iT ?_
    repeat refine D.cN true true ?_
    refine aj.fs (anns:=[.str iD]) ?_
    refine bK ?_
    refine D.df (e) ?_
    refine D.bR ?_ (hb:=by simp only[maxLen]; omega)
    refine ao ?_
    first|refine D.R ?_|refine D.E ?_
    exact⟨_,rfl,.av rfl rfl,trivial,trivial⟩
   ·match l,aw with
    |[x,y],_=>
    simp only[mY,Bool.and_true,Bool.and_eq_true]at hq
    simp only[ad.bB]at bW
    have hY:(fX x (cm x) (cV o)++[32]++o++[32]++fX y (cm y) (cV o+1)).length≤1000000000:=ap
    simp only[List.length_append,List.length_cons,List.length_nil]at hY
    have e:=(th N).2 x (cV o) (by omega) hq.1 (by omega)
    have ax:=(th N).2 y (cV o+1) (by omega) hq.2 (by omega)
    show aj Tryz.prog _ _ _ _ (tJ (.str (fX x (cm x) (cV o)++[32]++o++[32]++fX y (cm y) (cV o+1))) [] []) _ _
    generalize fX x (cm x) (cV o)=iD at e hY ⊢
    generalize fX y (cm y) (cV o+1)=Ge at ax hY ⊢
    have hp:=uG o
    have oR:=Fv o
    generalize cV o=gS at*
    clear ap qL
    rcases x with ⟨eb,ef,ed,eg,ee,ec⟩
    rcases y with ⟨sv,CK,x7,uU,x8,CJ⟩
    simp(disch:=omega)only[go_sem,simprocAttr]at e
    simp(disch:=omega)only[go_sem,simprocAttr]at ax
    iterate 7 refine iT ?_
    repeat refine D.cN true true ?_
    refine aj.b6 ?_
    refine bK ?_
    refine D.P (oR) ?_
    refine bK ?_
    repeat refine D.cN true true ?_
    refine aj.fs (anns:=[.str iD,.str Ge]) ?_
    refine bK ?_
    refine D.df (e) ?_
    refine D.bR ?_
    refine bK ?_
    refine D.bR ?_
    refine D.bR ?_
    refine bK ?_
    refine D.df (ax) ?_
    refine D.bR ?_
    refine ao ?_
    first|refine D.R ?_|refine D.E ?_
    exact⟨_,rfl,.av rfl rfl,trivial,trivial⟩
  refine⟨key,fun x k bW aY ap=> ?_⟩
  have oR:=Fv x.op
  by_cases cq:x.kind=6
  ·by_cases aC:cV x.op<k
   ·have jG:fX x (cm x) k=[40]++cm x++[41]:=if_pos ⟨cq,aC⟩
    rw[jG]at ap ⊢
    simp only[List.length_append,List.length_cons,List.length_nil]at ap
    have e:=key x bW aY (by omega)
    generalize cm x=iD at*
    rcases x with ⟨eb,ef,ed,eg,ee,ec⟩
    simp only[ad.kind,ad.op]at cq aC oR
    subst cq
    simp(disch:=omega)only[go_sem,simprocAttr]at e
    refine cF bN Tryz.func77 Dg (by simp only[b3,I.flat,ad.de,Bool.and_self]) rfl ?_
    unfold AR Cg
    simp(disch:=omega)only[go_sem,simprocAttr]
    refine ao ?_
    refine D.P (oR) ?_
    (have al:=aC;refine bQ ?_;clear al)
    refine D.P (e) ?_
    refine D.bR ?_
    refine D.bR ?_
    refine ao ?_
    first|refine D.R ?_|refine D.E ?_
    exact⟨_,rfl,.av rfl rfl,trivial,trivial⟩
   ·have jG:fX x (cm x) k=cm x:=if_neg fun h=>aC h.2
    rw[jG]at ap ⊢
    have e:=key x bW aY (by omega)
    generalize cm x=iD at*
    rcases x with ⟨eb,ef,ed,eg,ee,ec⟩
    simp only[ad.kind,ad.op]at cq aC oR
    subst cq
    simp(disch:=omega)only[go_sem,simprocAttr]at e
    refine cF bN Tryz.func77 Dg (by simp only[b3,I.flat,ad.de,Bool.and_self]) rfl ?_
    unfold AR Cg
    simp(disch:=omega)only[go_sem,simprocAttr]
    refine ao ?_
    refine D.P (oR) ?_
    (have al:=aC;refine bQ ?_;clear al)
    refine D.P (e) ?_
    refine ao ?_
    first|refine D.R ?_|refine D.E ?_
    exact⟨_,rfl,.av rfl rfl,trivial,trivial⟩
  ·have jG:fX x (cm x) k=cm x:=if_neg fun h=>cq h.1
   rw[jG]at ap ⊢
   have e:=key x bW aY (by omega)
   generalize cm x=iD at*
   rcases x with ⟨eb,ef,ed,eg,ee,ec⟩
   simp only[ad.kind]at cq
   simp(disch:=omega)only[go_sem,simprocAttr]at e
   refine cF bN Tryz.func77 Dg (by simp only[b3,I.flat,ad.de,Bool.and_self]) rfl ?_
   unfold AR Cg
   simp(disch:=omega)only[go_sem,simprocAttr]
   (have al:=cq;refine bQ ?_;clear al)
   refine D.P (e) ?_
   refine ao ?_
   first|refine D.R ?_|refine D.E ?_
   exact⟨_,rfl,.av rfl rfl,trivial,trivial⟩
end
section
attribute [local go_sem] ad.ct ad.b9 ad.de ac.ct ac.b9 ac.de cj eN fZ gJ dp of_flat
theorem My (sep:a7){lL:List a7}{i:Nat}{y:a7}(h:lL[i]? =some y):Lib.join (lL.take (i+1)) sep=(if i=0 then[] else Lib.join (lL.take i) sep++sep)++y:=by
 cases lL with
 |nil=>simp at h
 |cons x r=>
  cases i with
  |zero=>
   simp only[List.getElem?_cons_zero,Option.some.injEq]at h
   subst h
   simp only[List.take_succ_cons,List.take_zero,Lib.join_one,if_true,List.nil_append]
  |succ i=>
   rw[List.getElem?_cons_succ]at h
   rw[List.take_succ_cons,Lib.join_cons,Lib.joinTail_take_succ _ _ _ _ h,if_neg (by omega),List.take_succ_cons,Lib.join_cons]
   simp only[List.append_assoc]
theorem Mz (sep:a7) (lL:List a7) (i:Nat):(Lib.join (lL.take i) sep).length≤(Lib.join lL sep).length:=by
 cases lL with
 |nil=>simp
 |cons x r=>
  cases i with
  |zero=>simp only[List.take_zero,Lib.join_nil,List.length_nil]; omega
  |succ i=>
   rw[List.take_succ_cons,Lib.join_cons,Lib.join_cons,List.length_append,List.length_append]
   have:=Lib.joinTail_take_le sep r i
   omega
theorem at4 (l:List ad) (aP:ad.bB l≤1000000) (aY:l.all dB=true) (ap:(Lib.join (l.map cm) [44,32]).length≤1000000000):Pure Tryz.prog 131 [.ay 6 (l.map ad.row)] (.str (Lib.join (l.map cm) [44,32])):=by
 have j9:=ad.hZ l
 refine cF bN Tryz.func131 Uj (by simp only[b3,I.flat,ad.b9,Bool.and_self]) rfl ?_
 unfold Ja PK
 simp(disch:=omega)only[go_sem,simprocAttr]
 refine ao ?_
 refine aj.dd (X:=Nat×a7) (0,[]) (fun x=>[(0,.ay 6 (l.map ad.row)),(3,.str x.2),(4,.int .i64 (x.1:Int))]) (fun _=>[]) (fun _=>[]) (fun x=>x.1≤l.length∧x.2=Lib.join ((l.map cm).take x.1) [44,32]) (fun x=>l.length-x.1) ⟨Nat.zero_le _,rfl⟩ ⟨rfl,rfl,rfl,trivial⟩ trivial trivial ?_
 rintro⟨i,o⟩ ⟨ai,aB⟩
 try simp only at ai aB ⊢
 have aH:o.length≤1000000000:=by
  rw[aB]
  exact Nat.le_trans (Mz _ _ _) ap
 cases af:l[i]? with
 |some v=>
  have cK:=(List.getElem?_eq_some_iff.1 af).1
  have gN:=List.mem_of_getElem? af
  have d1:(i:Int)<((l.map ad.row).length:Int):=by rw[List.length_map]; omega
  have Zv:=Nat.le_trans (Mx (sep:=[44,32]) (List.mem_map_of_mem (f:=cm) gN)) ap
  have e:=(th 1000000).1 v (by have:=ad.pW gN; omega) (by simpa using List.all_eq_true.1 aY v gN) Zv
  have mv:=My [44,32] (show (l.map cm)[i]? =some (cm v) by rw[List.getElem?_map,af]; rfl)
  rw[←aB]at mv
  generalize cm v=tp at*
  rcases v with ⟨eb,ef,ed,eg,ee,ec⟩
  simp(disch:=omega)only[go_sem,simprocAttr]at e
  by_cases aw:i=0
  ·have d2: ¬(0:Int)<(i:Int):=by omega
   rw[if_pos aw,List.nil_append]at mv
   have aq:o=[]:=by rw[aB,aw]; rfl
   (have al:=d1;have z2:=d2;refine e8 ?_;clear al z2)
   refine D.P (e) ?_
   refine D.bR ?_ (hb:=by simp only[maxLen]; omega)
   refine ao ?_
   refine aj.dK (i+1,o++tp) ⟨by omega,by rw[mv,aq]; rfl⟩ ⟨rfl,rfl,by simp only[Int.natCast_add]; rfl,trivial⟩ trivial trivial rfl rfl (by show l.length-(i+1)<l.length-i; omega)
  ·have d2:(0:Int)<(i:Int):=by omega
   rw[if_neg aw]at mv
   (have al:=d1;have z2:=d2;refine e8 ?_;clear al z2)
   refine D.bR ?_
   refine ao ?_
   refine D.P (e) ?_
   refine D.bR ?_
   refine ao ?_
   refine aj.dK (i+1,o++[44,32]++tp) ⟨by omega,mv.symm⟩ ⟨rfl,rfl,by simp only[Int.natCast_add]; rfl,trivial⟩ trivial trivial rfl rfl (by show l.length-(i+1)<l.length-i; omega)
 |none=>
  have cM:=List.getElem?_eq_none_iff.1 af
  have bE:i=l.length:=by omega
  subst bE
  have d1: ¬(l.length:Int)<((l.map ad.row).length:Int):=by rw[List.length_map]; omega
  rw[List.take_of_length_le (by rw[List.length_map]; omega)]at aB
  (have al:=d1;refine bQ ?_;clear al)
  first|refine D.R ?_|refine D.E ?_
  exact⟨_,rfl,.av (by rw[aB]; rfl) rfl,trivial,trivial⟩
end
section
attribute [local go_sem] ad.ct ad.b9 ad.de ac.ct ac.b9 ac.de cj eN fZ gJ dp of_flat
def kp (d:Nat):a7:=List.replicate d 9
theorem R7 (d:Nat):kp d++[9]=kp (d+1):=by
 unfold kp
 rw[List.replicate_succ']
theorem R6 (d:Nat):(kp d).length=d:=by simp [kp]
def kc (d:Nat) (l:List ac):a7:=[123,10]++ac.fF (d+1) l++kp d++[125]
mutual
def ac.l2 (d:Nat):ac→a7
 | .mk k m x t a b=>if k=1 then m++[32,61,32]++cm x++[59]
  else if k=3 then[119,104,105,108,101,32]++cm x++[32,116,105,109,101,115,32]++Lib.itoa t++[32]++kc d a
  else[105,102,32]++cm x++[32]++kc d a++(if b.isEmpty=true then[] else[32,101,108,115,101,32]++(if jH b=true then ac.zf d b else kc d b))
def ac.zf (d:Nat):List ac→a7
 |[]=>[]
 |y:: _=>ac.l2 d y
end
mutual
theorem ac.Ff (d:Nat): ∀x:ac,((x.kind=1∨x.kind=3)→∀bw,ac.gS d bw x=kp d++ac.l2 d x++[10])∧(¬x.kind=1→¬x.kind=3→∃r,ac.l2 d x=[105,102,32]++r∧∀bw,ac.gS d bw x=kp d++bw++r++[10])
 | .mk k m x t a b=>by
  have dc:=ac.Xo d b
  simp only[ac.kind]
  refine⟨fun h bw=> ?_,fun J au=> ?_⟩
  ·by_cases J:k=1
   ·simp only[ac.gS,ac.l2,J,if_true,eE,List.flatten_cons,List.flatten_nil,List.append_assoc,List.append_nil]
    rfl
   ·have au:k=3:=h.resolve_left J
    simp only[ac.gS,ac.l2,au,show ¬(3:Int)=1 by decide,if_false,if_true,eE,List.flatten_cons,List.flatten_nil,List.append_assoc,List.append_nil,kc]
    rfl
  ·simp only[ac.gS,ac.l2,J,au,if_false,List.append_assoc]
   refine⟨_,rfl,fun bw=> ?_⟩
   cases b with
   |nil=>
    simp only[jH,List.isEmpty_nil,if_true,Bool.false_eq_true,if_false,eE,kc,List.flatten_cons,List.flatten_nil,List.append_assoc,List.append_nil,List.nil_append]
    rfl
   |cons y l=>
    simp only[List.isEmpty_cons,Bool.false_eq_true,if_false]
    cases hb:jH (y::l) with
    |true=>
     obtain⟨r,ar,ax⟩:=dc hb
     simp only[if_true,ar,ax,eE,kc,List.flatten_cons,List.flatten_nil,List.append_assoc,List.append_nil]
     simp [kp]
    |false=>
     simp only[Bool.false_eq_true,if_false,eE,kc,List.flatten_cons,List.flatten_nil,List.append_assoc,List.append_nil]
     simp [kp]
theorem ac.Xo (d:Nat): ∀l:List ac,jH l=true→∃r,ac.zf d l=[105,102,32]++r∧ac.rC d l=kp d++[125,32,101,108,115,101,32,105,102,32]++r++[10]
 |[],h=>by simp [jH]at h
 |y::l,h=>by
  have aZ:=ac.Ff d y
  have aC:y.kind=2:=by
   cases l with
   |nil=>simpa [jH] using h
   |cons z l=>simp [jH]at h
  obtain⟨r,ar,ax⟩:=aZ.2 (by omega) (by omega)
  exact⟨r,by simp only[ac.zf,ar],by simp only[ac.rC,ax]⟩
end
theorem ac.OH (d:Nat) (x:ac):ac.gS d [105,102,32] x=kp d++ac.l2 d x++[10]:=by
 by_cases h:x.kind=1∨x.kind=3
 ·exact (ac.Ff d x).1 h _
 ·obtain⟨r,ar,ax⟩:=(ac.Ff d x).2 (fun e=>h (.inl e)) (fun e=>h (.inr e))
  rw[ar,ax]
  simp only[List.append_assoc]
def k6 (N:Nat):Prop:=∀(x:ac) (d:Nat),x.bI≤N→hX x=true→d+x.bI≤1000000→(ac.l2 d x).length≤1000000000→Pure Tryz.prog 184 [.agg x.row,.str (kp d)] (.str (ac.l2 d x))
def CQ (N:Nat):Prop:=∀(l:List ac) (d:Nat),ac.bB l≤N→ho l=true→d+1+ac.bB l≤1000000→(kc d l).length≤1000000000→Pure Tryz.prog 130 [.ay 11 (l.map ac.row),.str (kp d)] (.str (kc d l))
theorem Pe {N:Nat}(mo:k6 N):CQ N:=by
 intro l d bW aY bw aH
 have j9:=ac.hZ l
 have L9:=R6 d
 simp only[kc,List.length_append,List.length_cons,List.length_nil]at aH
 refine cF bN Tryz.func130 Ui (by simp only[b3,I.flat,ac.b9,Bool.and_self]) rfl ?_
 unfold I9 PJ
 simp(disch:=omega)only[go_sem,simprocAttr]
 refine ao ?_
 refine aj.dd (X:=Nat×a7) (0,[123,10]) (fun x=>[(0,.ay 11 (l.map ac.row)),(1,.str (kp d)),(5,.str x.2),(6,.int .i64 (x.1:Int))]) (fun _=>[]) (fun _=>[]) (fun x=>x.1≤l.length∧x.2=[123,10]++ac.fF (d+1) (l.take x.1)) (fun x=>l.length-x.1) ⟨Nat.zero_le _,rfl⟩ ⟨rfl,rfl,rfl,rfl,trivial⟩ trivial trivial ?_
 rintro⟨i,o⟩ ⟨ai,aB⟩
 try simp only at ai aB ⊢
 have sY:o.length≤1000000010:=by
  have:=Fh (d+1) l i
  rw[aB,List.length_append,List.length_cons,List.length_cons,List.length_nil]
  omega
 cases af:l[i]? with
 |some v=>
  have cK:=(List.getElem?_eq_some_iff.1 af).1
  have gN:=List.mem_of_getElem? af
  have Ex:=ac.pW gN
  have d1:(i:Int)<((l.map ac.row).length:Int):=by rw[List.length_map]; omega
  have hle:=OJ (d+1) af
  rw[ac.OH]at hle
  simp only[List.length_append,List.length_cons,List.length_nil]at hle
  have e:=mo v (d+1) (by omega) (by rw[yK]at aY; exact List.all_eq_true.1 aY v gN) (by omega) (by omega)
  have mv:[123,10]++ac.fF (d+1) (l.take (i+1))=o++(kp (d+1)++ac.l2 (d+1) v++[10]):=by rw[Fi _ af,ac.OH,←List.append_assoc,aB]
  have aQ8:=R6 (d+1)
  have pS:(ac.l2 (d+1) v).length≤1000000000:=by omega
  generalize ac.l2 (d+1) v=tp at*
  rcases v with ⟨aS9,aT0,⟨eb,ef,ed,eg,ee,ec⟩,aT2,aS8,CG⟩
  simp(disch:=omega)only[go_sem,simprocAttr]at e
  (have al:=d1;refine bQ ?_;clear al)
  refine D.bR ?_
  rw[R7]
  refine ao ?_
  refine D.bR ?_
  rw[R7]
  refine ao ?_
  refine D.P (e) ?_
  refine D.bR ?_ (hb:=by simp only[maxLen]; omega)
  refine D.bR ?_
  refine D.bR ?_
  refine ao ?_
  refine aj.dK (i+1,o++(kp (d+1)++tp++[10])) ⟨by omega,mv.symm⟩ ⟨rfl,rfl,rfl,by simp only[Int.natCast_add]; rfl,trivial⟩ trivial trivial rfl rfl (by show l.length-(i+1)<l.length-i; omega)
 |none=>
  have cM:=List.getElem?_eq_none_iff.1 af
  have bE:i=l.length:=by omega
  subst bE
  have d1: ¬(l.length:Int)<((l.map ac.row).length:Int):=by rw[List.length_map]; omega
  rw[List.take_length]at aB
  (have al:=d1;refine bQ ?_;clear al)
  refine D.bR ?_ (hb:=by simp only[maxLen]; omega)
  refine D.bR ?_
  refine ao ?_
  first|refine D.R ?_|refine D.E ?_
  exact⟨_,rfl,.av (by rw[aB]; rfl) rfl,trivial,trivial⟩
end
section
attribute [local go_sem] ad.ct ad.b9 ad.de ac.ct ac.b9 ac.de cj eN fZ gJ dp of_flat
theorem aq7 {N:Nat}(dX:CQ N) (mo:k6 N):k6 (N+1):=by
 rintro⟨k,h7,x,t,hU,gD⟩ d bW aY bw aH
 simp only[ac.bI]at bW bw
 simp only[hX,Bool.and_eq_true]at aY
 obtain⟨bh,pQ,pP,lY⟩:=aY
 have xa:x.bI≤1000000:=by omega
 rcases Bi bh with ⟨rfl,rfl,aa,au⟩|⟨rfl,rfl,rfl⟩|⟨rfl,rfl,J,aa,au⟩
 ·simp only[ac.l2,if_true,List.length_append,List.length_cons,List.length_nil]at aH ⊢
  have e:=(th 1000000).1 x xa pQ (by omega)
  generalize cm x=iD at*
  rcases x with ⟨eb,ef,ed,eg,ee,ec⟩
  simp(disch:=omega)only[go_sem,simprocAttr]at e
  refine cF bN Tryz.func184 wD (by simp only[b3,I.flat,ac.de,Bool.and_self]) rfl ?_
  unfold vf vV
  simp(disch:=omega)only[go_sem,simprocAttr]
  iterate 3 refine iT ?_
  repeat refine D.cN true true ?_
  refine aj.fs (anns:=[.str iD]) ?_
  refine bK ?_
  refine D.bR ?_
  refine bK ?_
  refine D.df (e) ?_
  refine D.bR ?_
  refine D.bR ?_
  refine ao ?_
  first|refine D.R ?_|refine D.E ?_
  exact⟨_,rfl,.av rfl rfl,trivial,trivial⟩
 ·simp only[ac.l2,show ¬(2:Int)=1 by decide,show ¬(2:Int)=3 by decide,if_false]at aH ⊢
  obtain⟨T,c4⟩: ∃T,T=(if gD.isEmpty=true then[] else[32,101,108,115,101,32]++(if jH gD=true then ac.zf d gD else kc d gD)):=⟨_,rfl⟩
  rw[←c4]at aH ⊢
  simp only[List.length_append,List.length_cons,List.length_nil]at aH
  have e:=(th 1000000).1 x xa pQ (by omega)
  by_cases dc:jH gD=true
  ·match gD,dc with
   |[y],dc=>
   have y7:y.kind=2:=by simpa [jH] using dc
   simp only[List.isEmpty_cons,Bool.false_eq_true,if_false,dc,if_true,ac.zf]at c4
   simp only[ac.bB]at bW bw
   simp only[ho,Bool.and_true]at lY
   have mm:=dX hU d (by omega) pP (by omega) (by omega)
   have rD:=mo y d (by omega) lY (by omega) (by have:=congrArg List.length c4; simp only[List.length_append,List.length_cons,List.length_nil]at this; omega)
   generalize cm x=iD at*
   generalize kc d hU=qO at*
   generalize ac.l2 d y=MO at*
   subst c4
   simp only[List.length_append,List.length_cons,List.length_nil]at aH
   rcases x with ⟨eb,ef,ed,eg,ee,ec⟩
   rcases y with ⟨sv,x7,⟨SW,mO,SY,S0,SZ,SX⟩,uU,tB,su⟩
   simp only[ac.kind]at y7
   subst y7
   simp(disch:=omega)only[go_sem,simprocAttr]at e
   simp(disch:=omega)only[go_sem,simprocAttr]at rD
   refine cF bN Tryz.func184 wD (by simp only[b3,I.flat,ac.de,Bool.and_self]) rfl ?_
   unfold vf vV
   simp(disch:=omega)only[go_sem,simprocAttr]
   iterate 4 refine iT ?_
   repeat refine D.cN true true ?_
   refine aj.fs (anns:=[.str iD,.str qO]) ?_
   refine bK ?_
   refine D.df (e) ?_
   refine D.bR ?_
   refine D.bR ?_
   refine bK ?_
   refine D.df (mm) ?_
   refine D.bR ?_
   refine ao ?_
   refine D.bR ?_
   refine ao ?_
   refine D.P (rD) ?_
   refine D.bR ?_
   refine ao ?_
   first|refine D.R ?_|refine D.E ?_
   exact⟨_,rfl,.av (by simp [I.av]) rfl,trivial,trivial⟩
  cases D0:jH gD with
  |true=>exact absurd D0 dc
  |false=>
  rw[D0]at c4
  simp only[Bool.false_eq_true,if_false]at c4
  have mm:=dX hU d (by omega) pP (by omega) (by omega)
  cases yT:gD.isEmpty with
  |true=>
   rw[yT]at c4
   simp only[if_true]at c4
   subst c4
   have qI:gD=[]:=by simpa using yT
   subst qI
   generalize cm x=iD at*
   generalize kc d hU=qO at*
   rcases x with ⟨eb,ef,ed,eg,ee,ec⟩
   simp(disch:=omega)only[go_sem,simprocAttr]at e
   refine cF bN Tryz.func184 wD (by simp only[b3,I.flat,ac.de,Bool.and_self]) rfl ?_
   unfold vf vV
   simp(disch:=omega)only[go_sem,simprocAttr]
   iterate 4 refine iT ?_
   repeat refine D.cN true true ?_
   refine aj.fs (anns:=[.str iD,.str qO]) ?_
   refine bK ?_
   refine D.df (e) ?_
   refine D.bR ?_
   refine D.bR ?_
   refine bK ?_
   refine D.df (mm) ?_
   refine D.bR ?_
   refine ao ?_
   first|refine D.R ?_|refine D.E ?_
   exact⟨_,rfl,.av (by simp [I.av]) rfl,trivial,trivial⟩
  |false=>
  rw[yT]at c4
  simp only[Bool.false_eq_true,if_false]at c4
  have rD:=dX gD d (by omega) lY (by omega) (by have:=congrArg List.length c4; simp only[List.length_append,List.length_cons,List.length_nil]at this; omega)
  by_cases J:gD.length=1
  ·match gD,J with
   |[y],_=>
   have y7: ¬y.kind=2:=by simpa [jH] using D0
   generalize cm x=iD at*
   generalize kc d hU=qO at*
   generalize kc d [y]=MO at*
   subst c4
   simp only[List.length_append,List.length_cons,List.length_nil]at aH
   rcases x with ⟨eb,ef,ed,eg,ee,ec⟩
   rcases y with ⟨sv,x7,⟨SW,mO,SY,S0,SZ,SX⟩,uU,tB,su⟩
   simp only[ac.kind]at y7
   simp only[List.map_cons,List.map_nil]at rD
   simp(disch:=omega)only[go_sem,simprocAttr]at e
   simp(disch:=omega)only[go_sem,simprocAttr]at rD
   refine cF bN Tryz.func184 wD (by simp only[b3,I.flat,ac.de,Bool.and_self]) rfl ?_
   unfold vf vV
   simp(disch:=omega)only[go_sem,simprocAttr]
   iterate 4 refine iT ?_
   repeat refine D.cN true true ?_
   refine aj.fs (anns:=[.str iD,.str qO]) ?_
   refine bK ?_
   refine D.df (e) ?_
   refine D.bR ?_
   refine D.bR ?_
   refine bK ?_
   refine D.df (mm) ?_
   refine D.bR ?_
   (have al:=y7;refine bQ ?_;clear al)
   refine D.bR ?_
   refine ao ?_
   refine D.P (rD) ?_
   refine D.bR ?_
   refine ao ?_
   first|refine D.R ?_|refine D.E ?_
   exact⟨_,rfl,.av (by simp [I.av]) rfl,trivial,trivial⟩
  ·have aw:gD.length≠0:=by
    intro bE
    rw[List.length_eq_zero_iff.1 bE]at yT
    simp at yT
   have d0: ¬((gD.map ac.row).length:Int)=0:=by rw[List.length_map]; omega
   have d1: ¬((gD.map ac.row).length:Int)=1:=by rw[List.length_map]; omega
   generalize cm x=iD at*
   generalize kc d hU=qO at*
   generalize kc d gD=MO at*
   subst c4
   simp only[List.length_append,List.length_cons,List.length_nil]at aH
   rcases x with ⟨eb,ef,ed,eg,ee,ec⟩
   simp(disch:=omega)only[go_sem,simprocAttr]at e
   refine cF bN Tryz.func184 wD (by simp only[b3,I.flat,ac.de,Bool.and_self]) rfl ?_
   unfold vf vV
   simp(disch:=omega)only[go_sem,simprocAttr]
   iterate 4 refine iT ?_
   repeat refine D.cN true true ?_
   refine aj.fs (anns:=[.str iD,.str qO]) ?_
   refine bK ?_
   refine D.df (e) ?_
   refine D.bR ?_
   refine D.bR ?_
   refine bK ?_
   refine D.df (mm) ?_
   refine D.bR ?_
   (have al:=d0;have z2:=d1;refine e8 ?_;clear al z2)
   refine D.bR ?_
   refine ao ?_
   refine D.P (rD) ?_
   refine D.bR ?_
   refine ao ?_
   first|refine D.R ?_|refine D.E ?_
   exact⟨_,rfl,.av (by simp [I.av]) rfl,trivial,trivial⟩
 ·simp only[ac.l2,show ¬(3:Int)=1 by decide,if_false,if_true,List.length_append,List.length_cons,List.length_nil]at aH ⊢
  have e:=(th 1000000).1 x xa pQ (by omega)
  have en:=zw t (by omega) (by omega)
  have mm:=dX hU d (by omega) pP (by omega) (by omega)
  generalize cm x=iD at*
  generalize Lib.itoa t=jS at*
  generalize kc d hU=qO at*
  rcases x with ⟨eb,ef,ed,eg,ee,ec⟩
  simp(disch:=omega)only[go_sem,simprocAttr]at e
  refine cF bN Tryz.func184 wD (by simp only[b3,I.flat,ac.de,Bool.and_self]) rfl ?_
  unfold vf vV
  simp(disch:=omega)only[go_sem,simprocAttr]
  iterate 4 refine iT ?_
  repeat refine D.cN true true ?_
  refine aj.fs (anns:=[.str iD,.str jS,.str qO]) ?_
  refine bK ?_
  refine D.df (e) ?_
  refine D.bR ?_
  refine D.bR ?_
  refine bK ?_
  refine D.df (en) ?_
  refine D.bR ?_
  refine D.bR ?_
  refine bK ?_
  refine D.df (mm) ?_
  refine D.bR ?_
  refine ao ?_
  first|refine D.R ?_|refine D.E ?_
  exact⟨_,rfl,.av (by simp [I.av]) rfl,trivial,trivial⟩
theorem Fe: ∀N,k6 N∧CQ N
 |0=>by
  have h:k6 0:=by
   rintro⟨k,h7,x,t,hU,gD⟩ d bW
   simp only[ac.bI]at bW
   omega
  exact⟨h,Pe h⟩
 |N+1=>by
  have h:=aq7 (Fe N).2 (Fe N).1
  exact⟨h,Pe h⟩
end
section
attribute [local go_sem] ad.ct ad.b9 ad.de ac.ct ac.b9 ac.de cj eN fZ gJ dp of_flat cb.row dG
theorem aL6 (v:cb):jT v=[9,118,97,114,32]++v.name++[58,32]++(if v.hV=2 then[116,101,120,116] else[105,110,116])++[32]++Lib.itoa v.cz++[32,46,46,32]++Lib.itoa v.ai++[32,61,32]++qM v.ik v.n v.s++[59,10]:=by
 unfold jT eE
 split<;>simp
theorem Ls (h:cd):jb h=([9,111,110,32]++h.eK++[40])++Lib.join h.ps [44,32]++([41,32,102,114,111,109,32]++h.peer++[32]++kc 1 h.body++[10]):=by
 unfold jb eE kc
 simp [kp]
theorem ak0 (o:ca):jJ o=([9,111,102,102,101,114,32]++o.eK++[40]++Lib.join (o.args.map cm) [44,32]++[41,32,116,111,32]++o.peer)++p9 o.dT++[59,10]:=by
 unfold jJ eE
 simp
theorem O2 (x:e9) (ab:CU x):Pure Tryz.prog 57 [x.ir] (.str (iK x)):=by
 have eC:=ab.len
 have Em:=ab.nS
 have Ek:=ab.nh
 have ck:=ab.no
 obtain⟨F,oV⟩: ∃F,F=iK x:=⟨_,rfl⟩
 rw[←oV]at eC ⊢
 unfold iK at oV
 obtain⟨H0,w7⟩: ∃H0,H0=eE 0 [[115,101,114,118,105,99,101,32],x.name,[32,112,108,97,121,115,32],x.hD,[32,111,102,32],x.hA,[32,123]]:=⟨_,rfl⟩
 obtain⟨E,dc⟩: ∃E,E=eE 0 [[125]]:=⟨_,rfl⟩
 rw[←w7,←dc]at oV
 have Be:=congrArg List.length oV
 simp only[List.length_append]at Be
 have D1:H0=[115,101,114,118,105,99,101,32]++x.name++[32,112,108,97,121,115,32]++x.hD++[32,111,102,32]++x.hA++[32,123,10]:=by rw[w7]; unfold eE; simp
 have Yr:=congrArg List.length D1
 simp only[List.length_append,List.length_cons,List.length_nil]at Yr
 rw[lq]
 refine cF bN Tryz.func57 Vw (by simp only[b3,I.flat,dG,dp,of_flat,Bool.and_self]) rfl ?_
 unfold wO QX
 simp(disch:=omega)only[go_sem,simprocAttr]
 iterate 2 refine iT ?_
 refine D.bR ?_
 refine D.bR ?_
 refine bK ?_
 refine D.bR ?_
 refine D.bR ?_
 refine bK ?_
 refine D.bR ?_
 refine D.bR ?_
 refine ao ?_
 have aP1: ∃ij,ij=H0∧ij=[115,101,114,118,105,99,101,32]++x.name++[32,112,108,97,121,115,32]++x.hD++[32,111,102,32]++x.hA++[32,123,10]:=⟨_,rfl,D1⟩
 refine aj.dd (X:=Nat×a7) (0,H0) (fun y=>[(1,.ptr 0 0),(3,.str y.2),(4,.int .i64 (y.1:Int))]) (fun _=>[(0,35,x.cells)]) (fun _=>[]) (fun y=>y.1≤x.vars.length∧y.2=H0++((x.vars.take y.1).map jT).flatten) (fun y=>x.vars.length-y.1) ⟨Nat.zero_le _,by simp⟩ ⟨rfl,by simp only[D1,List.cons_append,List.nil_append]; rfl,rfl,trivial⟩ ⟨by simp only[fG]; rfl,trivial⟩ trivial ?_
 rintro⟨i,o⟩ ⟨ai,aB⟩
 try simp only at ai aB ⊢
 have sY:=BJ jT x.vars i
 have uo:=congrArg List.length aB
 rw[List.length_append]at uo
 have L1:o.length≤900000000:=by omega
 clear sY uo
 simp only[fG]
 cases af:x.vars[i]? with
 |some v=>
  have cK:=(List.getElem?_eq_some_iff.1 af).1
  have gN:=List.mem_of_getElem? af
  have mZ:iN v=true:=by simpa using List.all_eq_true.1 ab.ay v gN
  have d1:(i:Int)<((x.vars.map cb.row).length:Int):=by rw[List.length_map]; omega
  have fy:H0++((x.vars.take (i+1)).map jT).flatten=o++jT v:=by rw[vI jT af,aB,List.append_assoc]
  obtain⟨g1,g2,g3,g4,g5,g6⟩:=DW mZ
  have kj:=SA mZ
  rw[aL6]at fy kj
  have DU: -1000000000≤v.n∧v.n≤1000000000:=by
   by_cases h:v.ik=2
   ·simp only[iN,Bool.and_eq_true,h,show ¬(2:Int)=1 by decide,if_true,if_false,decide_eq_true_eq]at mZ
    omega
   ·exact g5 h
  have fR:=zw v.cz g1 g2
  have il:=zw v.ai g3 g4
  have gl:=zw v.n DU.1 DU.2
  have mB:=O9 v.s (by omega)
  simp only[qM]at fy kj
  rcases v with ⟨h7,hV,cz,gB,ik,n,s⟩
  simp only at fR il gl mB fy kj
  generalize Lib.itoa cz=s1 at*
  generalize Lib.itoa gB=s2 at*
  generalize Lib.itoa n=oA at*
  generalize p4 s=Cl at*
  clear DU g1 g2 g3 g4 g5 g6 mZ
  by_cases aC:hV=2
  ·subst aC
   rw[if_pos rfl]at fy kj
   by_cases aa:ik=2
   ·subst aa
    rw[if_pos rfl]at fy kj
    simp only[List.length_append,List.length_cons,List.length_nil]at kj
    (have al:=d1;refine bQ ?_;clear al)
    refine D.P (gl) ?_
    refine bK ?_
    iterate 3 refine iT ?_
    (repeat (apply aj.s true true;(·simp(disch:=omega)only[go_sem,simprocAttr,]<;>with_reducible rfl)))
    refine aj.b6 ?_
    refine bK ?_
    refine D.P (mB) ?_
    refine bK ?_
    (repeat (apply aj.s true true;(·simp(disch:=omega)only[go_sem,simprocAttr,]<;>with_reducible rfl)))
    refine aj.fs (anns:=[.str s1,.str s2]) ?_
    refine bK ?_
    refine D.bR ?_
    refine D.bR ?_
    refine bK ?_
    refine D.bR ?_
    refine D.bR ?_
    refine bK ?_
    refine D.df (fR) ?_
    refine D.bR ?_
    refine D.bR ?_
    refine bK ?_
    refine D.df (il) ?_
    refine D.bR ?_
    refine D.bR ?_
    refine bK ?_
    refine D.bR ?_
    refine D.bR ?_
    refine D.bR ?_
    refine ao ?_
    refine aj.gT (i+1,o++([9,118,97,114,32]++h7++[58,32]++[116,101,120,116]++[32]++s1++[32,46,46,32]++s2++[32,61,32]++Cl++[59,10])) ⟨by omega,fy.symm⟩ ⟨rfl,rfl,by simp only[Int.natCast_add]; rfl,trivial⟩ ⟨rfl,trivial⟩ trivial rfl (by simp only[fY,dr,dP,dV,fO,I.cR,b2.bJ,fG,lT,dG,dp,of_flat,go_sem]<;>rfl) (by show x.vars.length-(i+1)<x.vars.length-i; omega)
   ·rw[if_neg aa]at fy kj
    simp only[List.length_append,List.length_cons,List.length_nil]at kj
    (have al:=d1;refine bQ ?_;clear al)
    refine D.P (gl) ?_
    refine bK ?_
    (have al:=aa;refine gA ?_;refine gA ?_;refine gA ?_;clear al)
    (have al:=aa;refine yd ?_;clear al)
    refine aj.fs (anns:=[.str s1,.str s2]) ?_
    refine bK ?_
    refine D.bR ?_
    refine D.bR ?_
    refine bK ?_
    refine D.bR ?_
    refine D.bR ?_
    refine bK ?_
    refine D.df (fR) ?_
    refine D.bR ?_
    refine D.bR ?_
    refine bK ?_
    refine D.df (il) ?_
    refine D.bR ?_
    refine D.bR ?_
    refine bK ?_
    refine D.bR ?_
    refine D.bR ?_
    refine D.bR ?_
    refine ao ?_
    refine aj.gT (i+1,o++([9,118,97,114,32]++h7++[58,32]++[116,101,120,116]++[32]++s1++[32,46,46,32]++s2++[32,61,32]++oA++[59,10])) ⟨by omega,fy.symm⟩ ⟨rfl,rfl,by simp only[Int.natCast_add]; rfl,trivial⟩ ⟨rfl,trivial⟩ trivial rfl (by simp only[fY,dr,dP,dV,fO,I.cR,b2.bJ,fG,lT,dG,dp,of_flat,go_sem]<;>rfl) (by show x.vars.length-(i+1)<x.vars.length-i; omega)
  ·rw[if_neg aC]at fy kj
   by_cases aa:ik=2
   ·subst aa
    rw[if_pos rfl]at fy kj
    simp only[List.length_append,List.length_cons,List.length_nil]at kj
    (have al:=d1;refine bQ ?_;clear al)
    refine D.P (gl) ?_
    refine bK ?_
    (have al:=aC;refine gA ?_;refine gA ?_;clear al)
    (have al:=aC;refine yd ?_;clear al)
    refine aj.b6 ?_
    refine bK ?_
    refine D.P (mB) ?_
    refine bK ?_
    (repeat (apply aj.s true true;(·simp(disch:=omega)only[go_sem,simprocAttr,]<;>with_reducible rfl)))
    refine aj.fs (anns:=[.str s1,.str s2]) ?_
    refine bK ?_
    refine D.bR ?_
    refine D.bR ?_
    refine bK ?_
    refine D.bR ?_
    refine D.bR ?_
    refine bK ?_
    refine D.df (fR) ?_
    refine D.bR ?_
    refine D.bR ?_
    refine bK ?_
    refine D.df (il) ?_
    refine D.bR ?_
    refine D.bR ?_
    refine bK ?_
    refine D.bR ?_
    refine D.bR ?_
    refine D.bR ?_
    refine ao ?_
    refine aj.gT (i+1,o++([9,118,97,114,32]++h7++[58,32]++[105,110,116]++[32]++s1++[32,46,46,32]++s2++[32,61,32]++Cl++[59,10])) ⟨by omega,fy.symm⟩ ⟨rfl,rfl,by simp only[Int.natCast_add]; rfl,trivial⟩ ⟨rfl,trivial⟩ trivial rfl (by simp only[fY,dr,dP,dV,fO,I.cR,b2.bJ,fG,lT,dG,dp,of_flat,go_sem]<;>rfl) (by show x.vars.length-(i+1)<x.vars.length-i; omega)
   ·rw[if_neg aa]at fy kj
    simp only[List.length_append,List.length_cons,List.length_nil]at kj
    (have al:=d1;refine bQ ?_;clear al)
    refine D.P (gl) ?_
    refine bK ?_
    (have al:=aC;have z2:=aa;refine fo ?_;refine fo ?_;clear al z2)
    (have al:=aC;have z2:=aa;refine ye ?_;clear al z2)
    refine aj.fs (anns:=[.str s1,.str s2]) ?_
    refine bK ?_
    refine D.bR ?_
    refine D.bR ?_
    refine bK ?_
    refine D.bR ?_
    refine D.bR ?_
    refine bK ?_
    refine D.df (fR) ?_
    refine D.bR ?_
    refine D.bR ?_
    refine bK ?_
    refine D.df (il) ?_
    refine D.bR ?_
    refine D.bR ?_
    refine bK ?_
    refine D.bR ?_
    refine D.bR ?_
    refine D.bR ?_
    refine ao ?_
    refine aj.gT (i+1,o++([9,118,97,114,32]++h7++[58,32]++[105,110,116]++[32]++s1++[32,46,46,32]++s2++[32,61,32]++oA++[59,10])) ⟨by omega,fy.symm⟩ ⟨rfl,rfl,by simp only[Int.natCast_add]; rfl,trivial⟩ ⟨rfl,trivial⟩ trivial rfl (by simp only[fY,dr,dP,dV,fO,I.cR,b2.bJ,fG,lT,dG,dp,of_flat,go_sem]<;>rfl) (by show x.vars.length-(i+1)<x.vars.length-i; omega)
 |none=>
 have cM:=List.getElem?_eq_none_iff.1 af
 have bE:i=x.vars.length:=by omega
 subst bE
 rw[List.take_length]at aB
 have d1: ¬(x.vars.length:Int)<((x.vars.map cb.row).length:Int):=by rw[List.length_map]; omega
 (have al:=d1;refine bQ ?_;clear al)
 clear af cM d1 ai
 revert o
 intro V aP4 ol
 refine aj.dd (X:=Nat×a7) (0,V) (fun y=>[(1,.ptr 0 0),(3,.str y.2),(8,.int .i64 (y.1:Int))]) (fun _=>[(0,35,x.cells)]) (fun _=>[]) (fun y=>y.1≤x.ap.length∧y.2=V++((x.ap.take y.1).map jb).flatten) (fun y=>x.ap.length-y.1) ⟨Nat.zero_le _,by simp⟩ ⟨rfl,rfl,rfl,trivial⟩ ⟨by simp only[fG]; rfl,trivial⟩ trivial ?_
 rintro⟨i,o⟩ ⟨ai,aB⟩
 try simp only at ai aB ⊢
 have sY:=BJ jb x.ap i
 have uo:=congrArg List.length aB
 have Lp:=congrArg List.length ol
 rw[List.length_append]at uo Lp
 have L1:o.length≤900000000:=by omega
 clear sY uo
 simp only[fG]
 cases af:x.ap[i]? with
 |some v=>
  have cK:=(List.getElem?_eq_some_iff.1 af).1
  have gN:=List.mem_of_getElem? af
  have mZ:jZ v=true:=by simpa using List.all_eq_true.1 ab.ap v gN
  have d1:(i:Int)<((x.ap.map cd.row).length:Int):=by rw[List.length_map]; omega
  have fy:V++((x.ap.take (i+1)).map jb).flatten=o++jb v:=by rw[vI jb af,aB,List.append_assoc]
  obtain⟨g1,g2⟩:=yI mZ
  have kj:=zj jb af
  rw[Ls]at fy kj
  have hb:(jb v).length≤900000000:=by rw[Ls]; omega
  have aP:=ab.aP v gN
  rcases v with ⟨eK,peer,ps,body⟩
  simp only at g1 g2 fy kj aP
  have LN:(Lib.join ps [44,32]).length≤900000000∧(kc 1 body).length≤900000000∧eK.length≤900000000∧peer.length≤900000000:=by
   simp only[List.length_append,List.length_cons,List.length_nil]at kj
   omega
  have fR:=(Fe 900000).2 body 1 aP g1 (by omega) (by omega)
  rw[show kp 1=[9] from rfl]at fR
  (have al:=d1;refine bQ ?_;clear al)
  refine D.bR ?_
  refine D.bR ?_
  refine D.bR ?_
  refine ao ?_
  have LO:=Mz [44,32] ps
  obtain⟨wv,D2⟩: ∃wv,wv=o++([9,111,110,32]++eK++[40]):=⟨_,rfl⟩
  have aP2:wv.length≤1900000000:=by
   rw[D2]
   simp only[List.length_append,List.length_cons,List.length_nil]
   omega
  refine aj.dd (X:=Nat×a7) (0,wv) (fun y=>[(1,.ptr 0 0),(9,.ptr 1 0),(3,.str y.2),(8,.int .i64 (i:Int)),(10,.int .i64 (y.1:Int))]) (fun _=>[(1,99,(cd.mk eK peer ps body).row),(0,35,x.cells)]) (fun _=>[]) (fun y=>y.1≤ps.length∧y.2=wv++Lib.join (ps.take y.1) [44,32]) (fun y=>ps.length-y.1) ⟨Nat.zero_le _,by simp [Lib.join_nil]⟩ ⟨rfl,rfl,by simp only[D2,List.cons_append,List.nil_append]; rfl,rfl,rfl,trivial⟩ ⟨by simp only[fZ]; rfl,by simp only[fG]; rfl,trivial⟩ trivial ?_
  rintro⟨j,q⟩ ⟨bq,bG⟩
  try simp only at bq bG ⊢
  have Eo:q.length≤2800000000:=by
   have:=LO j
   rw[bG,List.length_append]
   omega
  simp only[fG,fZ]
  cases hw:ps[j]? with
  |some s=>
   have Zu:=(List.getElem?_eq_some_iff.1 hw).1
   have d2:(j:Int)<((ps.map cj).length:Int):=by rw[List.length_map]; omega
   have xk:=My [44,32] hw
   have pS:s.length≤900000000:=by
    have:=congrArg List.length xk
    have aa:=LO (j+1)
    rw[List.length_append]at this
    omega
   by_cases aw:j=0
   ·have d3: ¬(0:Int)<(j:Int):=by omega
    rw[if_pos aw,List.nil_append]at xk
    have aq:q=wv:=by rw[bG,aw]; simp [Lib.join_nil]
    (have al:=d2;have z2:=d3;refine e8 ?_;clear al z2)
    refine D.bR ?_ (hb:=by simp only[maxLen]; omega)
    refine ao ?_
    refine aj.dK (j+1,q++s) ⟨by omega,by rw[xk,aq]⟩ ⟨rfl,rfl,rfl,rfl,by simp only[Int.natCast_add]; rfl,trivial⟩ ⟨rfl,rfl,trivial⟩ trivial rfl rfl (by show ps.length-(j+1)<ps.length-j; omega)
   ·have d3:(0:Int)<(j:Int):=by omega
    rw[if_neg aw]at xk
    (have al:=d2;have z2:=d3;refine e8 ?_;clear al z2)
    refine D.bR ?_
    refine ao ?_
    refine D.bR ?_
    refine ao ?_
    refine aj.dK (j+1,q++[44,32]++s) ⟨by omega,by rw[xk,bG]; simp only[List.append_assoc]⟩ ⟨rfl,rfl,rfl,rfl,by simp only[Int.natCast_add]; rfl,trivial⟩ ⟨rfl,rfl,trivial⟩ trivial rfl rfl (by show ps.length-(j+1)<ps.length-j; omega)
  |none=>
  have cM:=List.getElem?_eq_none_iff.1 hw
  have bE:j=ps.length:=by omega
  subst bE
  rw[List.take_length]at bG
  have d2: ¬(ps.length:Int)<((ps.map cj).length:Int):=by rw[List.length_map]; omega
  have Bw:V++((x.ap.take (i+1)).map jb).flatten=q++([41,32,102,114,111,109,32]++peer++[32]++kc 1 body++[10]):=by
   rw[fy,bG,D2]
   simp only[List.append_assoc]
  clear fy
  generalize kc 1 body=B at*
  (have al:=d2;refine gA ?_;clear al)
  (have al:=d2;refine yd ?_;clear al)
  refine aj.fs (anns:=[.str B]) ?_
  refine bK ?_
  refine D.bR ?_
  refine D.bR ?_
  refine bK ?_
  refine D.df (fR) ?_
  refine D.bR ?_
  refine D.bR ?_
  refine D.bR ?_
  refine ao ?_
  refine aj.gT (i+1,q++([41,32,102,114,111,109,32]++peer++[32]++B++[10])) ⟨by omega,Bw.symm⟩ ⟨rfl,rfl,by simp only[Int.natCast_add]; rfl,trivial⟩ ⟨rfl,trivial⟩ trivial rfl (by simp only[fY,dr,dP,dV,fO,I.cR,b2.bJ,fG,lT,dG,dp,of_flat,go_sem]<;>rfl) (by show x.ap.length-(i+1)<x.ap.length-i; omega)
 |none=>
 have cM:=List.getElem?_eq_none_iff.1 af
 have bE:i=x.ap.length:=by omega
 subst bE
 rw[List.take_length]at aB
 have d1: ¬(x.ap.length:Int)<((x.ap.map cd.row).length:Int):=by rw[List.length_map]; omega
 (have al:=d1;refine bQ ?_;clear al)
 clear af cM d1 ai
 revert o
 intro W aP5 yM
 have Yv:=congrArg List.length yM
 rw[List.length_append]at Yv
 refine aj.dd (X:=Nat×a7) (0,W) (fun y=>[(1,.ptr 0 0),(3,.str y.2),(11,.int .i64 (y.1:Int))]) (fun _=>[(0,35,x.cells)]) (fun _=>[]) (fun y=>y.1≤x.os.length∧y.2=W++((x.os.take y.1).map jJ).flatten) (fun y=>x.os.length-y.1) ⟨Nat.zero_le _,by simp⟩ ⟨rfl,rfl,rfl,trivial⟩ ⟨by simp only[fG]; rfl,trivial⟩ trivial ?_
 rintro⟨i,o⟩ ⟨ai,aB⟩
 try simp only at ai aB ⊢
 have sY:=BJ jJ x.os i
 have uo:=congrArg List.length aB
 rw[List.length_append]at uo
 have L1:o.length≤900000000:=by omega
 clear sY uo
 simp only[fG]
 cases af:x.os[i]? with
 |some v=>
  have cK:=(List.getElem?_eq_some_iff.1 af).1
  have gN:=List.mem_of_getElem? af
  have mZ:j6 v=true:=by simpa using List.all_eq_true.1 ab.os v gN
  have d1:(i:Int)<((x.os.map ca.row).length:Int):=by rw[List.length_map]; omega
  have fy:W++((x.os.take (i+1)).map jJ).flatten=o++jJ v:=by rw[vI jJ af,aB,List.append_assoc]
  obtain⟨g1,g2,g3⟩:=yJ mZ
  have kj:=zj jJ af
  rw[ak0]at fy kj
  have aP:=ab.o6 v gN
  rcases v with ⟨eK,peer,args,dT⟩
  simp only at g1 g2 g3 fy kj aP
  simp only[List.length_append,List.length_cons,List.length_nil]at kj
  have il:=at4 args (by omega) g1 (by omega)
  generalize Lib.join (args.map cm) [44,32]=A at*
  match dT,g2,g3 with
  |[],_,_=>
   simp only[p9,List.append_nil]at fy
   (have al:=d1;refine gA ?_;refine gA ?_;clear al)
   (repeat (apply aj.s true true;(·simp(disch:=omega)only[go_sem,simprocAttr,]<;>with_reducible rfl)))
   refine aj.fs (anns:=[.str A]) ?_
   refine bK ?_
   refine D.bR ?_
   refine D.bR ?_
   refine bK ?_
   refine D.df (il) ?_
   refine D.bR ?_
   refine D.bR ?_
   refine bK ?_
   refine D.bR ?_
   refine D.bR ?_
   refine ao ?_
   refine D.bR ?_
   refine ao ?_
   refine aj.gT (i+1,o++([9,111,102,102,101,114,32]++eK++[40]++A++[41,32,116,111,32]++peer)++[59,10]) ⟨by omega,by rw[fy]; simp only[List.append_assoc]⟩ ⟨rfl,rfl,by simp only[Int.natCast_add]; rfl,trivial⟩ ⟨rfl,trivial⟩ trivial rfl (by simp only[fY,dr,dP,dV,fO,I.cR,b2.bJ,fG,lT,dG,dp,of_flat,go_sem]<;>rfl) (by show x.os.length-(i+1)<x.os.length-i; omega)
  |[z],g2,_=>
   simp only[List.all_cons,List.all_nil,Bool.and_true]at g2
   simp only[ad.bB]at aP
   simp only[p9,List.length_append,List.length_cons,List.length_nil]at fy kj
   have gl:=(th 1000000).1 z (by omega) g2 (by omega)
   generalize cm z=oB at*
   rcases z with ⟨SW,mO,SY,S0,SZ,SX⟩
   simp(disch:=omega)only[go_sem,simprocAttr]at gl
   (have al:=d1;refine gA ?_;refine gA ?_;clear al)
   (repeat (apply aj.s true true;(·simp(disch:=omega)only[go_sem,simprocAttr,]<;>with_reducible rfl)))
   refine aj.fs (anns:=[.str A]) ?_
   refine bK ?_
   refine D.bR ?_
   refine D.bR ?_
   refine bK ?_
   refine D.df (il) ?_
   refine D.bR ?_
   refine D.bR ?_
   refine bK ?_
   refine D.bR ?_
   refine D.bR ?_
   refine ao ?_
   refine D.P (gl) ?_
   refine D.bR ?_
   refine D.bR ?_
   refine ao ?_
   refine D.bR ?_
   refine ao ?_
   refine aj.gT (i+1,o++([9,111,102,102,101,114,32]++eK++[40]++A++[41,32,116,111,32]++peer)++([32,119,104,101,114,101,32]++oB)++[59,10]) ⟨by omega,by rw[fy]; simp only[List.append_assoc]⟩ ⟨rfl,rfl,by simp only[Int.natCast_add]; rfl,trivial⟩ ⟨rfl,trivial⟩ trivial rfl (by simp only[fY,dr,dP,dV,fO,I.cR,b2.bJ,fG,lT,dG,dp,of_flat,go_sem]<;>rfl) (by show x.os.length-(i+1)<x.os.length-i; omega)
 |none=>
 have cM:=List.getElem?_eq_none_iff.1 af
 have bE:i=x.os.length:=by omega
 subst bE
 rw[List.take_length]at aB
 have d1: ¬(x.os.length:Int)<((x.os.map ca.row).length:Int):=by rw[List.length_map]; omega
 (have al:=d1;refine bQ ?_;clear al)
 refine D.bR ?_
 refine ao ?_
 first|refine D.R ?_|refine D.E ?_
 refine⟨_,rfl,.av ?_ rfl,trivial,trivial⟩
 rw[oV,aB,yM,ol,dc]
 simp [I.av,eE]
end
section
attribute [local go_sem] ad.ct ad.b9 ad.de ac.ct ac.b9 ac.de cj eN fZ gJ dp of_flat
theorem Ft: ∀(N:Nat) (x:ad),x.bI≤N→N≤1000000000→Pure Tryz.prog 138 [.agg x.row] (.int .i64 (iL x:Int))
 |0,.mk k o m t n l,h,_=>by simp only[ad.bI]at h; omega
 |N+1,.mk k o m t n l,bW,rO=>by
  simp only[ad.bI]at bW
  have j9:l.length≤1000000000:=by have:=ad.hZ l; omega
  have yR:=AG l
  simp only[iL]
  refine cF bN Tryz.func138 Up (by simp only[b3,I.flat,ad.de,Bool.and_self]) rfl ?_
  unfold Jg PQ
  simp(disch:=omega)only[go_sem,simprocAttr]
  refine ao ?_
  refine aj.dd (X:=Nat×Nat) (0,0) (fun y=>[(1,.ptr 0 0),(4,.int .i64 (y.1:Int)),(3,.int .i64 (y.2:Int))]) (fun _=>[(0,51,(ad.mk k o m t n l).row)]) (fun _=>[]) (fun y=>y.1≤l.length∧y.2≤oc l∧max y.2 (oc (l.drop y.1))=oc l) (fun y=>l.length-y.1) ⟨Nat.zero_le _,Nat.zero_le _,by simp⟩ ⟨rfl,rfl,rfl,trivial⟩ ⟨by simp only[ad.ct]; rfl,trivial⟩ trivial ?_
  rintro⟨i,a⟩ ⟨ai,aP,aB⟩
  simp only at ai aP aB ⊢
  simp only[ad.ct]
  cases af:l[i]? with
  |some v=>
   have cK:=(List.getElem?_eq_some_iff.1 af).1
   rw[iM af]at aB
   simp only[oc]at aB
   have d1:(i:Int)<((l.map ad.row).length:Int):=by rw[List.length_map]; omega
   have e:=Ft N v (by have:=ad.lh af; omega) (by omega)
   obtain⟨q,bG⟩: ∃q,q=iL v:=⟨_,rfl⟩
   rw[←bG]at e aB
   rcases v with ⟨eb,ef,ed,eg,ee,ec⟩
   simp(disch:=omega)only[go_sem,simprocAttr]at e
   (have al:=d1;refine bQ ?_;clear al)
   refine D.P (e) ?_
   refine ao ?_
   refine aj.gT (i+1,max a q) ⟨by simp only; omega,by simp only; omega,by simp only; omega⟩ ⟨rfl,by simp only[Int.natCast_add]; rfl,by rw[show ((max a q:Nat):Int)=max (a:Int) (q:Int) by omega]; rfl,trivial⟩ ⟨rfl,trivial⟩ trivial rfl (by simp only[fY,dr,dP,dV,fO,I.cR,b2.bJ,go_sem]<;>rfl) (by show l.length-(i+1)<l.length-i; omega)
  |none=>
   have cM:=List.getElem?_eq_none_iff.1 af
   have bE:i=l.length:=by omega
   subst bE
   have d1: ¬(l.length:Int)<((l.map ad.row).length:Int):=by rw[List.length_map]; omega
   rw[List.drop_length]at aB
   simp only[oc]at aB
   (have al:=d1;refine bQ ?_;clear al)
   first|refine D.R ?_|refine D.E ?_
   refine⟨_,rfl,.av ?_ rfl,trivial,trivial⟩
   simp only[I.av,I.int.injEq,true_and]
   omega
theorem az4 (s:a7):Pure Tryz.prog 96 [.str s] (.agg [.int .i64 2,.int .i64 0,.str s]):=by
 refine cF bN Tryz.func96 V0 rfl rfl ?_
 unfold KC Rv
 simp(disch:=omega)only[go_sem,simprocAttr]
 refine ao ?_
 first|refine D.R ?_|refine D.E ?_
 exact⟨_,rfl,.av rfl rfl,trivial,trivial⟩
theorem Fs: ∀(N:Nat) (x:ad),x.bI≤N→N≤1000000000→Pure Tryz.prog 137 [.agg x.row] (.bool (dB x))
 |0,.mk k o m t n l,h,_=>by simp only[ad.bI]at h; omega
 |N+1,.mk k o m t n l,bW,rO=>by
  simp only[ad.bI]at bW
  have j9:l.length≤1000000000:=by have:=ad.hZ l; omega
  have cv: ∀(i:Nat) (v:ad),l[i]? =some v→Pure Tryz.prog 137 [.agg v.row] (.bool (dB v)):=fun i v af=>Fs N v (by have:=ad.lh af; omega) (by omega)
  simp only[dB,DV]
  have z0:((l.map ad.row).length:Int)=(l.length:Int):=by rw[List.length_map]
  refine cF bN Tryz.func137 Uo (by simp only[b3,I.flat,ad.de,Bool.and_self]) rfl ?_
  unfold Jf PP
  simp(disch:=omega)only[go_sem,simprocAttr]
  iterate 4 refine iT ?_
  repeat refine D.cN true false ?_
  refine aj.C5 (X:=Nat×Bool×a7×a7×a7×Int) (fun y=>[(1,.ptr 0 0),(3,.ptr 1 0),(4,.int .i64 (y.1:Int)),(5,.bool y.2.1)]) (fun y=>[(0,51,[.int .i64 k,.str o,.str m,.str t,.int .i64 n,.ay 6 (l.map ad.row)]),(1,51,[.int .i64 k,.str y.2.2.1,.str y.2.2.2.1,.str y.2.2.2.2.1,.int .i64 y.2.2.2.2.2,.aV])]) (fun _=>[]) (fun y=>fL k o m t n l.length=(y.2.1&&(decide (l.length=y.1)&&(decide (y.2.2.1=o)&&(decide (y.2.2.2.1=m)&&(decide (y.2.2.2.2.1=t)&&decide (y.2.2.2.2.2=n))))))) ?_ ?_
  ·rintro⟨c,ok,SH,SG,wt,wn⟩ w8
   simp only at w8 ⊢
   rw[w8]
   clear w8
   cases ok
   ·refine ao ?_
    first|refine D.R ?_|refine D.E ?_
    exact⟨_,rfl,.av (by simp [I.av, *]) rfl,trivial,trivial⟩
   by_cases aH:l.length=c
   rotate_left
   ·have d0: ¬((l.map ad.row).length:Int)=(c:Int):=by rw[List.length_map]; omega
    (have al:=d0;refine bQ ?_;clear al)
    first|refine D.R ?_|refine D.E ?_
    exact⟨_,rfl,.av (by simp [I.av, *]) rfl,trivial,trivial⟩
   have d0:((l.map ad.row).length:Int)=(c:Int):=by rw[List.length_map]; omega
   by_cases aq:SH=o
   rotate_left
   ·(have al:=d0;have z2:=aq;refine e8 ?_;clear al z2)
    first|refine D.R ?_|refine D.E ?_
    exact⟨_,rfl,.av (by simp [I.av, *]) rfl,trivial,trivial⟩
   subst aq
   by_cases hm:SG=m
   rotate_left
   ·(have al:=d0;have z2:=hm;refine e8 ?_;clear al z2)
    first|refine D.R ?_|refine D.E ?_
    exact⟨_,rfl,.av (by simp [I.av, *]) rfl,trivial,trivial⟩
   subst hm
   by_cases aO:wt=t
   rotate_left
   ·(have al:=d0;have z2:=aO;refine e8 ?_;clear al z2)
    first|refine D.R ?_|refine D.E ?_
    exact⟨_,rfl,.av (by simp [I.av, *]) rfl,trivial,trivial⟩
   subst aO
   by_cases a6:wn=n
   rotate_left
   ·(have al:=d0;have z2:=a6;refine e8 ?_;clear al z2)
    first|refine D.R ?_|refine D.E ?_
    exact⟨_,rfl,.av (by simp [I.av, *]) rfl,trivial,trivial⟩
   subst a6
   subst aH
   simp only[decide_true,Bool.true_and]
   (have al:=d0;refine bQ ?_;clear al)
   refine aj.dd (X:=Nat) 0 (fun i=>[(1,.ptr 0 0),(4,.int .i64 (l.length:Int)),(6,.int .i64 (i:Int))]) (fun _=>[(0,51,(ad.mk k SH SG wt wn l).row)]) (fun _=>[]) (fun i=>i≤l.length∧(l.drop i).all dB=l.all dB) (fun i=>l.length-i) ⟨Nat.zero_le _,rfl⟩ ⟨rfl,rfl,rfl,trivial⟩ ⟨by simp only[ad.ct]; rfl,trivial⟩ trivial ?_
   rintro i ⟨ai,aB⟩
   try simp only at ai aB ⊢
   simp only[ad.ct]
   cases af:l[i]? with
   |some v=>
    have cK:=(List.getElem?_eq_some_iff.1 af).1
    have d1:(i:Int)<(l.length:Int):=by omega
    have d2:(i:Int)<((l.map ad.row).length:Int):=by rw[List.length_map]; omega
    have e:=cv i v af
    rw[iM af]at aB
    simp only[List.all_cons]at aB
    generalize dB v=oj at*
    rcases v with ⟨eb,ef,ed,eg,ee,ec⟩
    simp(disch:=omega)only[go_sem,simprocAttr]at e
    (have al:=d1;refine bQ ?_;clear al)
    refine D.P (e) ?_
    cases oj
    ·refine ao ?_
     first|refine D.R ?_|refine D.E ?_
     exact⟨_,rfl,.av (by rw[←aB]; rfl) rfl,trivial,trivial⟩
    ·refine ao ?_
     refine aj.dK (i+1) ⟨by omega,by simpa using aB⟩ ⟨rfl,rfl,by simp only[Int.natCast_add]; rfl,trivial⟩ ⟨rfl,trivial⟩ trivial rfl rfl (by show l.length-(i+1)<l.length-i; omega)
   |none=>
    have cM:=List.getElem?_eq_none_iff.1 af
    have bE:i=l.length:=by omega
    subst bE
    have d1: ¬(l.length:Int)<(l.length:Int):=by omega
    rw[List.drop_length]at aB
    (have al:=d1;refine bQ ?_;clear al)
    first|refine D.R ?_|refine D.E ?_
    exact⟨_,rfl,.av (by rw[←aB]; rfl) rfl,trivial,trivial⟩
  ·intro bq
   by_cases J:k=1
   ·subst J
    by_cases aw:0≤n
    ·by_cases aa:n≤1000
     ·(have al:=aw;have z2:=aa;refine fo ?_;refine fo ?_;refine fo ?_;clear al z2)
      refine aj.gV ?_
      refine bq _ _ (0,true,[],[],[],n) (by simp [fL,aw,aa,eq_comm]) ?_ ?_ ?_ rfl rfl
      all_goals first|exact⟨rfl,rfl,rfl,rfl,trivial⟩|exact⟨rfl,rfl,trivial⟩|exact trivial
     ·(have al:=aw;have z2:=aa;refine fo ?_;refine fo ?_;refine fo ?_;clear al z2)
      refine aj.gV ?_
      refine bq _ _ (0,false,[],[],[],n) (by simp [fL,aw,aa]) ?_ ?_ ?_ rfl rfl
      all_goals first|exact⟨rfl,rfl,rfl,rfl,trivial⟩|exact⟨rfl,rfl,trivial⟩|exact trivial
    ·(have al:=aw;refine gA ?_;refine gA ?_;refine gA ?_;clear al)
     refine aj.gV ?_
     refine bq _ _ (0,false,[],[],[],n) (by simp [fL,aw]) ?_ ?_ ?_ rfl rfl
     all_goals first|exact⟨rfl,rfl,rfl,rfl,trivial⟩|exact⟨rfl,rfl,trivial⟩|exact trivial
   by_cases aa:k=2
   ·subst aa
    have ar:=az4 t
    have ax:=OQ 2 0 t
    have aJ:so 2 0 t=lM t:=by simp [so]
    rw[aJ]at ax
    iterate 3 refine iT ?_
    repeat refine D.cN true true ?_
    refine aj.b6 ?_
    refine bK ?_
    refine D.P (ar) ?_
    refine bK ?_
    refine D.P (ax) ?_
    refine bK ?_
    refine aj.gV ?_
    refine bq _ _ (0,lM t,[],[],t,0) (by simp [fL,eq_comm]) ?_ ?_ ?_ rfl rfl
    all_goals first|exact⟨rfl,rfl,rfl,rfl,trivial⟩|exact⟨rfl,rfl,trivial⟩|exact trivial
   by_cases au:k=3
   ·subst au
    have ar:=r9 m
    (have al:=J;have z2:=aa;refine fo ?_;refine fo ?_;refine fo ?_;refine fo ?_;clear al z2)
    repeat refine D.cN true true ?_
    refine aj.b6 ?_
    refine bK ?_
    refine D.P (ar) ?_
    refine bK ?_
    refine aj.gV ?_
    refine bq _ _ (0,db m,[],m,[],0) (by simp [fL,eq_comm]) ?_ ?_ ?_ rfl rfl
    all_goals first|exact⟨rfl,rfl,rfl,rfl,trivial⟩|exact⟨rfl,rfl,trivial⟩|exact trivial
   by_cases bn:k=4
   ·subst bn
    iterate 5 refine iT ?_
    refine aj.gV ?_
    refine bq _ _ (1,true,[],[],[],0) (by simp [fL,eq_comm]) ?_ ?_ ?_ rfl rfl
    all_goals first|exact⟨rfl,rfl,rfl,rfl,trivial⟩|exact⟨rfl,rfl,trivial⟩|exact trivial
   by_cases bL:k=5
   ·subst bL
    by_cases cq:o=[45]
    ·subst cq
     iterate 7 refine iT ?_
     refine aj.gV ?_
     refine bq _ _ (1,true,[45],[],[],0) (by simp [fL,eq_comm]) ?_ ?_ ?_ rfl rfl
     all_goals first|exact⟨rfl,rfl,rfl,rfl,trivial⟩|exact⟨rfl,rfl,trivial⟩|exact trivial
    by_cases j0:o=[33]
    ·subst j0
     have d6: ¬([33]:a7)=[45]:=by decide
     (have al:=d6;refine gA ?_;refine gA ?_;refine gA ?_;refine gA ?_;refine gA ?_;refine gA ?_;refine gA ?_;clear al)
     refine aj.gV ?_
     refine bq _ _ (1,true,[33],[],[],0) (by simp [fL,eq_comm]) ?_ ?_ ?_ rfl rfl
     all_goals first|exact⟨rfl,rfl,rfl,rfl,trivial⟩|exact⟨rfl,rfl,trivial⟩|exact trivial
    ·(have al:=cq;have z2:=j0;refine fo ?_;refine fo ?_;refine fo ?_;refine fo ?_;refine fo ?_;refine fo ?_;refine fo ?_;clear al z2)
     refine aj.gV ?_
     refine bq _ _ (1,false,o,[],[],0) (by simp [fL,cq,j0]) ?_ ?_ ?_ rfl rfl
     all_goals first|exact⟨rfl,rfl,rfl,rfl,trivial⟩|exact⟨rfl,rfl,trivial⟩|exact trivial
   by_cases cq:k=6
   ·subst cq
    have ar:=Fv o
    have hp:=(uG o).1
    have rW:(!(decide (cV o=0)))=decide (0<cV o):=by
     by_cases h:cV o=0
     ·simp [h]
     ·have aa:0<cV o:=by omega
      simp [h,aa]
    iterate 7 refine iT ?_
    repeat refine D.cN true true ?_
    refine aj.b6 ?_
    refine bK ?_
    refine D.P (ar) ?_
    refine bK ?_
    refine aj.gV ?_
    refine bq _ _ (2,decide (0<cV o),o,[],[],0) (by simp only[fL,show ¬(6:Int)=1 by decide,show ¬(6:Int)=2 by decide,show ¬(6:Int)=3 by decide,show ¬(6:Int)=4 by decide,show ¬(6:Int)=5 by decide,if_false,if_true,rW]; generalize decide (0<cV o)=b; cases b<;>simp [eq_comm]) ?_ ?_ ?_ rfl rfl
    all_goals first|exact⟨rfl,rfl,rfl,rfl,trivial⟩|exact⟨rfl,rfl,trivial⟩|exact trivial
   (repeat' first|(apply ae.s rfl;(·simp(disch:=omega)only[go_sem,simprocAttr,J,aa,au,bn,bL,cq]<;>with_reducible rfl))|(apply aj.s true true;(·simp(disch:=omega)only[go_sem,simprocAttr,J,aa,au,bn,bL,cq]<;>with_reducible rfl))|apply ae.nil|(refine aj.b6 ?_)|(apply ae.eX;(·simp(disch:=omega)only[go_sem,simprocAttr,J,aa,au,bn,bL,cq]<;>with_reducible rfl))|(apply ae.eY;(·rfl);(·simp(disch:=omega)only[go_sem,simprocAttr,J,aa,au,bn,bL,cq]<;>with_reducible rfl))|(apply ae.gs;(·simp(disch:=omega)only[go_sem,simprocAttr,J,aa,au,bn,bL,cq]<;>with_reducible rfl))|((first|apply ae.e3|apply ae.e4|apply ae.e5);(·simp(disch:=omega)only[go_sem,simprocAttr,J,aa,au,bn,bL,cq]<;>with_reducible rfl);(·simp(disch:=omega)only[go_sem,simprocAttr,J,aa,au,bn,bL,cq]<;>with_reducible rfl);(·assumption);(·omega))|intro h)
   first|refine D.R ?_|refine D.E ?_
   exact⟨_,rfl,.av (by simp [I.av,fL, *]) rfl,trivial,trivial⟩
end
section
attribute [local go_sem] ad.ct ad.b9 ad.de ac.ct ac.b9 ac.de cj eN fZ gJ dp of_flat cb.row dG mV
def vi (l:List ad) (k:Int):Bool:=l.all (fun x=>dB x&&decide (iL x≤10))&&decide ((l.length:Int)≤k)
theorem O5 (l:List ad) (k:Int) (aP:ad.bB l≤1000000000):Pure Tryz.prog 62 [.ay 6 (l.map ad.row),.int .i64 k] (.bool (vi l k)):=by
 have j9:=ad.hZ l
 have z0:((l.map ad.row).length:Int)=(l.length:Int):=by rw[List.length_map]
 unfold vi
 obtain⟨yG,LH⟩: ∃yG,yG=(fun x:ad=>dB x&&decide (iL x≤10)):=⟨_,rfl⟩
 rw[←LH]
 refine cF bN Tryz.func62 VA (by simp only[b3,I.flat,ad.b9,Bool.and_self]) rfl ?_
 unfold Kf Q2
 simp(disch:=omega)only[go_sem,simprocAttr]
 refine ao ?_
 refine aj.dd (X:=Nat) 0 (fun i=>[(0,.ay 6 (l.map ad.row)),(1,.int .i64 k),(5,.int .i64 (i:Int))]) (fun _=>[]) (fun _=>[]) (fun i=>i≤l.length∧(l.drop i).all yG=l.all yG) (fun i=>l.length-i) ⟨Nat.zero_le _,rfl⟩ ⟨rfl,rfl,rfl,trivial⟩ trivial trivial ?_
 rintro i ⟨ai,aB⟩
 try simp only at ai aB ⊢
 cases af:l[i]? with
 |some v=>
  have cK:=(List.getElem?_eq_some_iff.1 af).1
  have d1:(i:Int)<((l.map ad.row).length:Int):=by rw[List.length_map]; omega
  have Ex:=ad.pW (List.mem_of_getElem? af)
  have e:=Fs 1000000000 v (by omega) (Nat.le_refl _)
  have ax:=Ft 1000000000 v (by omega) (Nat.le_refl _)
  rw[iM af]at aB
  have aY:yG v=(dB v&&decide (iL v≤10)):=by rw[LH]
  simp only[List.all_cons,aY]at aB
  clear aY
  generalize dB v=oj at*
  generalize iL v=Dy at*
  rcases v with ⟨eb,ef,ed,eg,ee,ec⟩
  simp(disch:=omega)only[go_sem,simprocAttr]at e
  simp(disch:=omega)only[go_sem,simprocAttr]at ax
  (have al:=d1;refine bQ ?_;clear al)
  refine D.P (e) ?_
  cases oj
  ·refine ao ?_
   first|refine D.R ?_|refine D.E ?_
   exact⟨_,rfl,.av (by rw[←aB]; rfl) rfl,trivial,trivial⟩
  ·refine ao ?_
   refine D.P (ax) ?_
   by_cases bw:Dy≤10
   ·have d2: ¬(10:Int)<(Dy:Int):=by omega
    (have al:=d2;refine bQ ?_;clear al)
    refine aj.dK (i+1) ⟨by omega,by simpa [bw] using aB⟩ ⟨rfl,rfl,by simp only[Int.natCast_add]; rfl,trivial⟩ trivial trivial rfl rfl (by show l.length-(i+1)<l.length-i; omega)
   ·have d2:(10:Int)<(Dy:Int):=by omega
    (have al:=d2;refine bQ ?_;clear al)
    first|refine D.R ?_|refine D.E ?_
    exact⟨_,rfl,.av (by rw[←aB]; simp [I.av,bw]) rfl,trivial,trivial⟩
 |none=>
  have cM:=List.getElem?_eq_none_iff.1 af
  have bE:i=l.length:=by omega
  subst bE
  have d1: ¬(l.length:Int)<(l.length:Int):=by omega
  rw[List.drop_length]at aB
  simp only[List.all_nil]at aB
  (have al:=d1;have z2:=z0;refine e8 ?_;clear al z2)
  first|refine D.R ?_|refine D.E ?_
  refine⟨_,rfl,.av ?_ rfl,trivial,trivial⟩
  rw[←aB]
  simp [I.av]
theorem ax8 (v:cb):Pure Tryz.prog 59 [.agg v.row] (.bool (iN v)):=by
 obtain⟨h7,hV,cz,ai,ik,n,s⟩:=v
 have ar:=r9 h7
 have ax:=OQ ik n s
 obtain⟨G,hG⟩: ∃G,G=iN ⟨h7,hV,cz,ai,ik,n,s⟩:=⟨_,rfl⟩
 rw[←hG]
 simp only[iN]at hG
 refine cF bN Tryz.func59 Vy rfl rfl ?_
 unfold Kc QZ
 simp(disch:=omega)only[go_sem,simprocAttr]
 by_cases J:cz< -999999
 ·have ah:iX cz=false:=by simp [iX]; omega
  rw[ah,Bool.false_and,Bool.and_false]at hG
  (have al:=J;refine bQ ?_;clear al)
  first|refine D.R ?_|refine D.E ?_
  exact⟨_,rfl,.av (by rw[hG]; rfl) rfl,trivial,trivial⟩
 by_cases aa:ai< -999999
 ·have ah:iX ai=false:=by simp [iX]; omega
  rw[ah,Bool.false_and,Bool.and_false,Bool.and_false]at hG
  (have al:=J;have z2:=aa;refine e8 ?_;clear al z2)
  first|refine D.R ?_|refine D.E ?_
  exact⟨_,rfl,.av (by rw[hG]; rfl) rfl,trivial,trivial⟩
 by_cases au:999999<cz
 ·have ah:iX cz=false:=by simp [iX]; omega
  rw[ah,Bool.false_and,Bool.and_false]at hG
  (have al:=J;have z2:=aa;have z3:=au;refine ji ?_;clear al z2 z3)
  first|refine D.R ?_|refine D.E ?_
  exact⟨_,rfl,.av (by rw[hG]; rfl) rfl,trivial,trivial⟩
 have fa: ¬cz< -999999∧¬ai< -999999∧¬ 999999<cz:=⟨J,aa,au⟩
 by_cases bn:999999<ai
 ·have ah:iX ai=false:=by simp [iX]; omega
  rw[ah,Bool.false_and,Bool.and_false,Bool.and_false]at hG
  (have al:=fa;have z2:=bn;refine e8 ?_;clear al z2)
  first|refine D.R ?_|refine D.E ?_
  exact⟨_,rfl,.av (by rw[hG]; rfl) rfl,trivial,trivial⟩
 have fa: ¬cz< -999999∧¬ai< -999999∧¬ 999999<cz∧¬ 999999<ai:=⟨J,aa,au,bn⟩
 have c1:iX cz=true:=by simp [iX]; omega
 have c2:iX ai=true:=by simp [iX]; omega
 rw[c1,c2,Bool.true_and,Bool.true_and]at hG
 by_cases bC:hV=1
 ·subst bC
  simp only[decide_true,Bool.true_or,Bool.true_and]at hG
  by_cases i1:ik=1
  ·subst i1
   rw[if_pos rfl]at hG
   by_cases t1:s=[]
   rotate_left
   ·(have al:=fa;have z2:=t1;refine e8 ?_;clear al z2)
    first|refine D.R ?_|refine D.E ?_
    exact⟨_,rfl,.av (by rw[hG]; simp [I.av,t1]) rfl,trivial,trivial⟩
   subst t1
   by_cases t2: -999999≤n
   rotate_left
   ·(have al:=fa;have z2:=t2;refine e8 ?_;clear al z2)
    first|refine D.R ?_|refine D.E ?_
    exact⟨_,rfl,.av (by rw[hG]; simp [I.av,iX,t2]) rfl,trivial,trivial⟩
   by_cases t3:n≤999999
   rotate_left
   ·have t4: -999999≤n∧¬n≤999999:=⟨t2,t3⟩
    (have al:=fa;have z2:=t4;refine e8 ?_;clear al z2)
    first|refine D.R ?_|refine D.E ?_
    exact⟨_,rfl,.av (by rw[hG]; simp [I.av,iX,t3]) rfl,trivial,trivial⟩
   have t4: -999999≤n∧n≤999999:=⟨t2,t3⟩
   (have al:=fa;have z2:=t4;refine e8 ?_;clear al z2)
   refine D.P (ar) ?_
   refine ao ?_
   first|refine D.R ?_|refine D.E ?_
   exact⟨_,rfl,.av (by rw[hG]; simp [I.av,iX,t2,t3]) rfl,trivial,trivial⟩
  have af:so ik n s=(if ik=2 then decide (n=0)&&lM s else false):=by simp only[so,i1,if_false]
  rw[if_neg i1,←af]at hG
  generalize so ik n s=CG at*
  (have al:=fa;have z2:=i1;refine e8 ?_;clear al z2)
  refine D.P (ax) ?_
  cases CG
  ·refine ao ?_
   first|refine D.R ?_|refine D.E ?_
   exact⟨_,rfl,.av (by rw[hG]; simp [I.av]) rfl,trivial,trivial⟩
  ·refine ao ?_
   refine D.P (ar) ?_
   refine ao ?_
   first|refine D.R ?_|refine D.E ?_
   exact⟨_,rfl,.av (by rw[hG]; simp [I.av]) rfl,trivial,trivial⟩
 by_cases bA:hV=2
 rotate_left
 ·rw[decide_eq_false bC,decide_eq_false bA,Bool.false_and,Bool.or_false,Bool.false_and,Bool.and_false]at hG
  (have al:=fa;have z2:=bC;have z3:=bA;refine ji ?_;clear al z2 z3)
  first|refine D.R ?_|refine D.E ?_
  exact⟨_,rfl,.av (by rw[hG]; rfl) rfl,trivial,trivial⟩
 subst bA
 simp only[show ¬(2:Int)=1 by decide,decide_false,decide_true,Bool.false_or,Bool.true_and]at hG
 by_cases aM:cz<0
 ·have:decide (0≤cz)=false:=by simp; omega
  rw[this,Bool.false_and,Bool.false_and,Bool.and_false]at hG
  (have al:=fa;have z2:=aM;refine e8 ?_;clear al z2)
  first|refine D.R ?_|refine D.E ?_
  exact⟨_,rfl,.av (by rw[hG]; rfl) rfl,trivial,trivial⟩
 by_cases dZ:ai<0
 ·have:decide (0≤ai)=false:=by simp; omega
  rw[this,Bool.and_false,Bool.false_and,Bool.and_false]at hG
  (have al:=fa;have z2:=aM;have z3:=dZ;refine ji ?_;clear al z2 z3)
  first|refine D.R ?_|refine D.E ?_
  exact⟨_,rfl,.av (by rw[hG]; rfl) rfl,trivial,trivial⟩
 have cI:decide (0≤cz)=true:=by simp; omega
 have c8:decide (0≤ai)=true:=by simp; omega
 rw[cI,c8,Bool.true_and,Bool.true_and]at hG
 have dX: ¬cz<0∧¬ai<0:=⟨aM,dZ⟩
 by_cases i1:ik=1
 ·subst i1
  rw[if_pos rfl]at hG
  by_cases t1:s=[]
  rotate_left
  ·(have al:=fa;have z2:=dX;have z3:=t1;refine ji ?_;clear al z2 z3)
   first|refine D.R ?_|refine D.E ?_
   exact⟨_,rfl,.av (by rw[hG]; simp [I.av,t1]) rfl,trivial,trivial⟩
  subst t1
  by_cases t2: -999999≤n
  rotate_left
  ·(have al:=fa;have z2:=dX;have z3:=t2;refine ji ?_;clear al z2 z3)
   first|refine D.R ?_|refine D.E ?_
   exact⟨_,rfl,.av (by rw[hG]; simp [I.av,iX,t2]) rfl,trivial,trivial⟩
  by_cases t3:n≤999999
  rotate_left
  ·have t4: -999999≤n∧¬n≤999999:=⟨t2,t3⟩
   (have al:=fa;have z2:=dX;have z3:=t4;refine ji ?_;clear al z2 z3)
   first|refine D.R ?_|refine D.E ?_
   exact⟨_,rfl,.av (by rw[hG]; simp [I.av,iX,t3]) rfl,trivial,trivial⟩
  have t4: -999999≤n∧n≤999999:=⟨t2,t3⟩
  (have al:=fa;have z2:=dX;have z3:=t4;refine ji ?_;clear al z2 z3)
  refine D.P (ar) ?_
  refine ao ?_
  first|refine D.R ?_|refine D.E ?_
  exact⟨_,rfl,.av (by rw[hG]; simp [I.av,iX,t2,t3]) rfl,trivial,trivial⟩
 have af:so ik n s=(if ik=2 then decide (n=0)&&lM s else false):=by simp only[so,i1,if_false]
 rw[if_neg i1,←af]at hG
 generalize so ik n s=CG at*
 (have al:=fa;have z2:=dX;have z3:=i1;refine ji ?_;clear al z2 z3)
 refine D.P (ax) ?_
 cases CG
 ·refine ao ?_
  first|refine D.R ?_|refine D.E ?_
  exact⟨_,rfl,.av (by rw[hG]; simp [I.av]) rfl,trivial,trivial⟩
 ·refine ao ?_
  refine D.P (ar) ?_
  refine ao ?_
  first|refine D.R ?_|refine D.E ?_
  exact⟨_,rfl,.av (by rw[hG]; simp [I.av]) rfl,trivial,trivial⟩
end
section
attribute [local go_sem] ad.ct ad.b9 ad.de ac.ct ac.b9 ac.de cj eN fZ gJ dp of_flat cb.row dG mV
def oh (l:List ac) (d:Nat):Bool:=ho l&&decide (iv l≤d)
def uc (d:Nat) (v:ac):Bool:=hX v&&decide (kh v≤d)
theorem DL (d:Nat): ∀l,oh l d=l.all (uc d)
 |[]=>by simp [oh,ho,iv]
 |x::l=>by
  rw[List.all_cons,←DL d l]
  simp only[oh,uc,ho]
  have:decide (iv (x::l)≤d)=(decide (kh x≤d)&&decide (iv l≤d)):=by
   rw[←Bool.decide_and]
   exact decide_eq_decide.2 (by simp only[iv]; omega)
  rw[this]
  cases hX x<;>cases ho l<;>simp
theorem XQ (d:Nat) (k:Int) (m:a7) (x:ad) (t:Int) (a b:List ac):uc (d+1) (.mk k m x t a b)=((dB x&&decide (iL x<d+1))&&eu k m t a.length b.length&&(oh a d&&oh b d)):=by
 simp only[uc,hX,oh]
 have:decide (kh (.mk k m x t a b)≤d+1)=(decide (iL x<d+1)&&(decide (iv a≤d)&&decide (iv b≤d))):=by
  rw[←Bool.decide_and,←Bool.decide_and]
  exact decide_eq_decide.2 (by simp only[kh]; omega)
 rw[this]
 cases eu k m t a.length b.length<;>cases dB x<;>cases ho a<;>cases ho b<;>simp
theorem Fz: ∀(N:Nat) (l:List ac) (d:Nat),ac.bB l≤N→N≤100000000→d≤1000→Pure Tryz.prog 61 [.ay 11 (l.map ac.row),.int .i64 (d:Int)] (.bool (oh l d))
 |N,l,d,bW,rO,bw=>by
  have j9:=ac.hZ l
  refine cF bN Tryz.func61 Vz (by simp only[b3,I.flat,ac.b9,Bool.and_self]) rfl ?_
  unfold Ke Q1
  simp(disch:=omega)only[go_sem,simprocAttr]
  by_cases YZ:0<l.length∧d=0
  ·obtain⟨J,rfl⟩:=YZ
   have d1:(0:Int)<((l.map ac.row).length:Int):=by rw[List.length_map]; omega
   have eC:oh l 0=false:=by
    cases l with
    |nil=>simp at J
    |cons x l=>
     rcases x with ⟨k,m,x,t,a,b⟩
     simp [oh,iv,kh]
   (have al:=d1;refine bQ ?_;clear al)
   first|refine D.R ?_|refine D.E ?_
   exact⟨_,rfl,.av (by rw[eC]; rfl) rfl,trivial,trivial⟩
  have LK: ∃z:Bool,z=false∧((0:Int)<((l.map ac.row).length:Int)→¬(d:Int)=0):=⟨false,rfl,fun h=>by rw[List.length_map]at h; omega⟩
  rw[DL]
  cases xl:l with
  |nil=>
   refine ao ?_
   refine aj.dd (X:=Nat) 0 (fun i=>[(0,.ay 11 []),(1,.int .i64 (d:Int)),(5,.int .i64 (i:Int))]) (fun _=>[]) (fun _=>[]) (fun i=>i=0) (fun i=>0) rfl ⟨rfl,rfl,rfl,trivial⟩ trivial trivial ?_
   rintro i rfl
   refine ao ?_
   first|refine D.R ?_|refine D.E ?_
   exact⟨_,rfl,.av rfl rfl,trivial,trivial⟩
  |cons wo jd=>
  rw[←xl]
  have ZG:0<l.length:=by rw[xl]; simp
  obtain⟨jD,rfl⟩: ∃jD,d=jD+1:=⟨d-1,by omega⟩
  clear xl
  have d1:(0:Int)<((l.map ac.row).length:Int):=by rw[List.length_map]; omega
  have d2: ¬((jD+1:Nat):Int)=0:=by omega
  (have al:=d1;have z2:=d2;refine e8 ?_;clear al z2)
  refine aj.dd (X:=Nat) 0 (fun i=>[(0,.ay 11 (l.map ac.row)),(1,.int .i64 ((jD+1:Nat):Int)),(5,.int .i64 (i:Int))]) (fun _=>[]) (fun _=>[]) (fun i=>i≤l.length∧(l.drop i).all (uc (jD+1))=l.all (uc (jD+1))) (fun i=>l.length-i) ⟨Nat.zero_le _,rfl⟩ ⟨rfl,rfl,rfl,trivial⟩ trivial trivial ?_
  rintro i ⟨ai,aB⟩
  try simp only at ai aB ⊢
  cases af:l[i]? with
  |some v=>
   have cK:=(List.getElem?_eq_some_iff.1 af).1
   have d3:(i:Int)<((l.map ac.row).length:Int):=by rw[List.length_map]; omega
   have Ex:=ac.pW (List.mem_of_getElem? af)
   rw[iM af]at aB
   rcases v with ⟨k,m,x,t,a,b⟩
   simp only[ac.bI]at Ex
   have ar:=Fs 1000000000 x (by omega) (Nat.le_refl _)
   have ax:=Ft 1000000000 x (by omega) (Nat.le_refl _)
   have mm:=Fz (ac.bB a) a jD (Nat.le_refl _) (by omega) (by omega)
   have kG:=Fz (ac.bB b) b jD (Nat.le_refl _) (by omega) (by omega)
   rw[List.all_cons,XQ]at aB
   have Ea:=AF x
   generalize dB x=wZ at*
   generalize iL x=AJ at*
   generalize oh a jD=XK at*
   generalize oh b jD=XL at*
   rcases x with ⟨eb,ef,ed,eg,ee,ec⟩
   simp(disch:=omega)only[go_sem,simprocAttr]at ar
   simp(disch:=omega)only[go_sem,simprocAttr]at ax
   have al:((jD+1:Nat):Int)-1=(jD:Int):=by omega
   (have al:=d3;refine gA ?_;refine gA ?_;clear al)
   refine aj.aE7 (X:=Bool) (fun y=>[(0,.ay 11 (l.map ac.row)),(1,.int .i64 ((jD+1:Nat):Int)),(5,.int .i64 (i:Int)),(6,.ptr 0 0),(7,.bool y)]) (fun _=>[(0,165,[.int .i64 k,.str m,.int .i64 eb,.str ef,.str ed,.str eg,.int .i64 ee,.ay 6 (ec.map ad.row),.int .i64 t,.ay 11 (a.map ac.row),.ay 11 (b.map ac.row)])]) (fun _=>[]) (fun y=>y=(wZ&&decide (AJ<jD+1))) ?_ ?_
   rotate_left
   ·intro bq
    repeat refine D.cN true true ?_
    refine aj.b6 ?_
    refine bK ?_
    refine D.P (ar) ?_
    cases wZ
    ·refine bK ?_
     refine bq _ _ false (by simp) ?_ ?_ ?_ rfl rfl
     all_goals first|exact⟨rfl,rfl,rfl,rfl,rfl,trivial⟩|exact⟨rfl,trivial⟩|exact trivial
    ·refine bK ?_
     refine D.P (ax) ?_
     by_cases ab:AJ<jD+1
     ·have z:(AJ:Int)<((jD+1:Nat):Int):=by omega
      (have al:=z;refine rj ?_;clear al)
      refine bq _ _ true (by simp [ab]) ?_ ?_ ?_ rfl rfl
      all_goals first|exact⟨rfl,rfl,rfl,rfl,rfl,trivial⟩|exact⟨rfl,trivial⟩|exact trivial
     ·have z: ¬(AJ:Int)<((jD+1:Nat):Int):=by omega
      (have al:=z;refine rj ?_;clear al)
      refine bq _ _ false (by simp [ab]) ?_ ?_ ?_ rfl rfl
      all_goals first|exact⟨rfl,rfl,rfl,rfl,rfl,trivial⟩|exact⟨rfl,trivial⟩|exact trivial
   ·rintro B dX
    try simp only at dX ⊢
    rw[←dX]at aB
    clear dX
    iterate 1 refine iT ?_
    repeat refine D.cN true false ?_
    refine aj.C5 (X:=Bool) (fun y=>[(0,.ay 11 (l.map ac.row)),(1,.int .i64 ((jD+1:Nat):Int)),(5,.int .i64 (i:Int)),(6,.ptr 0 0),(7,.bool y)]) (fun _=>[(0,165,[.int .i64 k,.str m,.int .i64 eb,.str ef,.str ed,.str eg,.int .i64 ee,.ay 6 (ec.map ad.row),.int .i64 t,.ay 11 (a.map ac.row),.ay 11 (b.map ac.row)])]) (fun _=>[]) (fun y=>y=(B&&eu k m t a.length b.length)) ?_ ?_
    ·rintro C hC
     try simp only at hC ⊢
     rw[←hC]at aB
     clear hC
     cases C
     ·refine ao ?_
      first|refine D.R ?_|refine D.E ?_
      exact⟨_,rfl,.av (by rw[←aB]; rfl) rfl,trivial,trivial⟩
     ·(have al:=al;refine bQ ?_;clear al)
      refine D.P (mm) ?_
      cases XK
      ·refine ao ?_
       first|refine D.R ?_|refine D.E ?_
       exact⟨_,rfl,.av (by rw[←aB]; rfl) rfl,trivial,trivial⟩
      ·(have al:=al;refine bQ ?_;clear al)
       refine D.P (kG) ?_
       cases XL
       ·refine ao ?_
        first|refine D.R ?_|refine D.E ?_
        exact⟨_,rfl,.av (by rw[←aB]; rfl) rfl,trivial,trivial⟩
       ·refine ao ?_
        refine aj.gT (i+1) ⟨by omega,by simpa using aB⟩ ⟨rfl,rfl,by simp only[Int.natCast_add]; rfl,trivial⟩ trivial trivial rfl (by simp only[fY,dr,dP,dV,fO,I.cR,b2.bJ,ac.b9,go_sem]<;>rfl) (by show l.length-(i+1)<l.length-i; omega)
    ·intro bq
     by_cases bC:k=1
     ·subst bC
      cases B
      ·iterate 2 refine iT ?_
       refine aj.gV ?_
       refine bq _ _ false (by simp) ?_ ?_ ?_ rfl rfl
       all_goals first|exact⟨rfl,rfl,rfl,rfl,rfl,trivial⟩|exact⟨rfl,trivial⟩|exact trivial
      ·iterate 1 refine iT ?_
       repeat refine D.cN true true ?_
       refine aj.b6 ?_
       refine bK ?_
       refine D.P (r9 m) ?_
       cases hw:db m
       ·refine bK ?_
        refine aj.gV ?_
        refine bq _ _ false (by simp [eu,hw]) ?_ ?_ ?_ rfl rfl
        all_goals first|exact⟨rfl,rfl,rfl,rfl,rfl,trivial⟩|exact⟨rfl,trivial⟩|exact trivial
       by_cases t0:t=0
       rotate_left
       ·(have al:=t0;refine rj ?_;clear al)
        refine aj.gV ?_
        refine bq _ _ false (by simp [eu,t0]) ?_ ?_ ?_ rfl rfl
        all_goals first|exact⟨rfl,rfl,rfl,rfl,rfl,trivial⟩|exact⟨rfl,trivial⟩|exact trivial
       subst t0
       by_cases a0:a.length=0
       rotate_left
       ·have z2: ¬((a.map ac.row).length:Int)=0:=by rw[List.length_map]; omega
        (have al:=z2;refine rj ?_;clear al)
        refine aj.gV ?_
        refine bq _ _ false (by simp only[eu,a0,if_true,decide_false,Bool.false_and,Bool.and_false]) ?_ ?_ ?_ rfl rfl
        all_goals first|exact⟨rfl,rfl,rfl,rfl,rfl,trivial⟩|exact⟨rfl,trivial⟩|exact trivial
       have z2:((a.map ac.row).length:Int)=0:=by rw[List.length_map]; omega
       by_cases hi:b.length=0
       rotate_left
       ·have z3: ¬((b.map ac.row).length:Int)=0:=by rw[List.length_map]; omega
        (have al:=z2;have z2:=z3;refine GS ?_;clear al z2)
        refine aj.gV ?_
        refine bq _ _ false (by simp only[eu,hi,if_true,decide_false,Bool.false_and,Bool.and_false]) ?_ ?_ ?_ rfl rfl
        all_goals first|exact⟨rfl,rfl,rfl,rfl,rfl,trivial⟩|exact⟨rfl,trivial⟩|exact trivial
       have z3:((b.map ac.row).length:Int)=0:=by rw[List.length_map]; omega
       (have al:=z2;have z2:=z3;refine GS ?_;clear al z2)
       refine aj.gV ?_
       refine bq _ _ true (by simp [eu,a0,hi,hw]) ?_ ?_ ?_ rfl rfl
       all_goals first|exact⟨rfl,rfl,rfl,rfl,rfl,trivial⟩|exact⟨rfl,trivial⟩|exact trivial
     by_cases bA:k=2
     ·subst bA
      cases B
      ·iterate 3 refine iT ?_
       refine aj.gV ?_
       refine bq _ _ false (by simp) ?_ ?_ ?_ rfl rfl
       all_goals first|exact⟨rfl,rfl,rfl,rfl,rfl,trivial⟩|exact⟨rfl,trivial⟩|exact trivial
      by_cases m0:m=[]
      rotate_left
      ·(have al:=m0;refine gA ?_;refine gA ?_;refine gA ?_;clear al)
       refine aj.gV ?_
       refine bq _ _ false (by simp [eu,m0]) ?_ ?_ ?_ rfl rfl
       all_goals first|exact⟨rfl,rfl,rfl,rfl,rfl,trivial⟩|exact⟨rfl,trivial⟩|exact trivial
      subst m0
      by_cases t0:t=0
      rotate_left
      ·(have al:=t0;refine gA ?_;refine gA ?_;refine gA ?_;clear al)
       refine aj.gV ?_
       refine bq _ _ false (by simp [eu,t0]) ?_ ?_ ?_ rfl rfl
       all_goals first|exact⟨rfl,rfl,rfl,rfl,rfl,trivial⟩|exact⟨rfl,trivial⟩|exact trivial
      ·subst t0
       iterate 3 refine iT ?_
       refine aj.gV ?_
       refine bq _ _ true (by simp [eu]) ?_ ?_ ?_ rfl rfl
       all_goals first|exact⟨rfl,rfl,rfl,rfl,rfl,trivial⟩|exact⟨rfl,trivial⟩|exact trivial
     by_cases cO:k=3
     ·subst cO
      cases B
      ·iterate 4 refine iT ?_
       refine aj.gV ?_
       refine bq _ _ false (by simp) ?_ ?_ ?_ rfl rfl
       all_goals first|exact⟨rfl,rfl,rfl,rfl,rfl,trivial⟩|exact⟨rfl,trivial⟩|exact trivial
      by_cases m0:m=[]
      rotate_left
      ·(have al:=m0;refine gA ?_;refine gA ?_;refine gA ?_;refine gA ?_;clear al)
       refine aj.gV ?_
       refine bq _ _ false (by simp [eu,m0]) ?_ ?_ ?_ rfl rfl
       all_goals first|exact⟨rfl,rfl,rfl,rfl,rfl,trivial⟩|exact⟨rfl,trivial⟩|exact trivial
      subst m0
      by_cases t1:1≤t
      rotate_left
      ·(have al:=t1;refine gA ?_;refine gA ?_;refine gA ?_;refine gA ?_;clear al)
       refine aj.gV ?_
       refine bq _ _ false (by simp [eu,t1]) ?_ ?_ ?_ rfl rfl
       all_goals first|exact⟨rfl,rfl,rfl,rfl,rfl,trivial⟩|exact⟨rfl,trivial⟩|exact trivial
      by_cases t2:t≤50
      rotate_left
      ·(have al:=t1;have z2:=t2;refine fo ?_;refine fo ?_;refine fo ?_;refine fo ?_;clear al z2)
       refine aj.gV ?_
       refine bq _ _ false (by simp [eu,t2]) ?_ ?_ ?_ rfl rfl
       all_goals first|exact⟨rfl,rfl,rfl,rfl,rfl,trivial⟩|exact⟨rfl,trivial⟩|exact trivial
      have Bq:1≤t∧t≤50:=⟨t1,t2⟩
      by_cases hi:b.length=0
      rotate_left
      ·have z3: ¬((b.map ac.row).length:Int)=0:=by rw[List.length_map]; omega
       (have al:=Bq;have z2:=z3;refine fo ?_;refine fo ?_;refine fo ?_;refine fo ?_;clear al z2)
       refine aj.gV ?_
       refine bq _ _ false (by simp only[eu,show ¬(3:Int)=1 by decide,show ¬(3:Int)=2 by decide,hi,if_true,if_false,decide_false,Bool.false_and,Bool.and_false]) ?_ ?_ ?_ rfl rfl
       all_goals first|exact⟨rfl,rfl,rfl,rfl,rfl,trivial⟩|exact⟨rfl,trivial⟩|exact trivial
      ·have z3:((b.map ac.row).length:Int)=0:=by rw[List.length_map]; omega
       (have al:=Bq;have z2:=z3;refine fo ?_;refine fo ?_;refine fo ?_;refine fo ?_;clear al z2)
       refine aj.gV ?_
       refine bq _ _ true (by simp only[eu,show ¬(3:Int)=1 by decide,show ¬(3:Int)=2 by decide,hi,t1,t2,if_true,if_false,decide_true,Bool.true_and]) ?_ ?_ ?_ rfl rfl
       all_goals first|exact⟨rfl,rfl,rfl,rfl,rfl,trivial⟩|exact⟨rfl,trivial⟩|exact trivial
     have bh:eu k m t a.length b.length=false:=by simp only[eu,bC,bA,cO,if_false]
     rw[bh,Bool.and_false,Bool.false_and,Bool.false_and]at aB
     (have al:=bC;have z2:=bA;have z3:=cO;refine ji ?_;clear al z2 z3)
     first|refine D.R ?_|refine D.E ?_
     exact⟨_,rfl,.av (by rw[←aB]; rfl) rfl,trivial,trivial⟩
  |none=>
   have cM:=List.getElem?_eq_none_iff.1 af
   have bE:i=l.length:=by omega
   subst bE
   have d3: ¬(l.length:Int)<((l.map ac.row).length:Int):=by rw[List.length_map]; omega
   rw[List.drop_length]at aB
   (have al:=d3;refine bQ ?_;clear al)
   first|refine D.R ?_|refine D.E ?_
   exact⟨_,rfl,.av (by rw[←aB]; rfl) rfl,trivial,trivial⟩
 termination_by N l d=>ac.bB l
 decreasing_by all_goals (simp only[ac.bI]at*; omega)
end
section
attribute [local go_sem] ad.ct ad.b9 ad.de ac.ct ac.b9 ac.de cj eN fZ gJ dp of_flat cb.row dG mV
theorem X8 (h:cd):jZ h=((kR h.eK&&(db h.peer&&(decide (h.ps.length≤4)&&oh h.body 10)))&&h.ps.all db):=by
 have:(h.body.all hX&&h.body.all (fun x=>decide (kh x≤10)))=oh h.body 10:=by
  rw[DL]
  have: ∀l:List ac,(l.all hX&&l.all (fun x=>decide (kh x≤10)))=l.all (uc 10):=by
   intro l
   induction l with
   |nil=>rfl
   |cons x l cv=>
    rw[List.all_cons,List.all_cons,List.all_cons,←cv]
    simp only[uc]
    cases hX x<;>cases l.all hX<;>simp
  exact this _
 simp only[jZ,this]
 cases kR h.eK<;>cases db h.peer<;>cases decide (h.ps.length≤4)<;>cases h.ps.all db<;>simp
theorem X9 (o:ca):j6 o=(kR o.eK&&(db o.peer&&(vi o.args 4&&vi o.dT 1))):=by
 have fa: ∀l:List ad,(l.all dB&&l.all (fun x=>decide (iL x≤10)))=l.all (fun x=>dB x&&decide (iL x≤10)):=by
  intro l
  induction l with
  |nil=>rfl
  |cons x l cv=>
   rw[List.all_cons,List.all_cons,List.all_cons,←cv]
   cases dB x<;>cases l.all dB<;>simp
 have d1:decide ((o.args.length:Int)≤4)=decide (o.args.length≤4):=decide_eq_decide.2 (by omega)
 have d2:decide ((o.dT.length:Int)≤1)=decide (o.dT.length≤1):=decide_eq_decide.2 (by omega)
 simp only[j6,vi,d1,d2,←fa,List.all_append]
 generalize (o.args.all fun x=>decide (iL x≤10))=g1
 generalize (o.dT.all fun x=>decide (iL x≤10))=g2
 cases kR o.eK<;>cases db o.peer<;>cases decide (o.args.length≤4)<;>cases decide (o.dT.length≤1)<;>cases o.args.all dB<;>cases o.dT.all dB<;>cases g1<;>simp
theorem O0 (x:e9) (hb:oI x) (pR: ∀h∈x.ap,h.eK.length≤1000000000000000) (rW: ∀o∈x.os,o.eK.length≤1000000000000000):Pure Tryz.prog 21 [x.ir] (.bool (kJ x)):=by
 have ar:=r9 x.name
 have ax:=r9 x.hD
 have cw:=r9 x.hA
 have Em:=hb.nS
 have Ek:=hb.nh
 have ck:=hb.no
 obtain⟨G,hG⟩: ∃G,G=kJ x:=⟨_,rfl⟩
 have qD:kJ x=(qX x&&(py x&&decide ((iK x).length≤8000))):=rfl
 rw[←hG]
 rw[qD]at hG
 have wO:qX x=true→py x=true→Pure Tryz.prog 57 [x.ir] (.str (iK x)):=fun J aa=>O2 x (Cv hb J aa)
 have na:qX x=(db x.name&&(db x.hD&&(db x.hA&&(decide (x.vars.length≤12)&&(decide (x.ap.length≤40)&&decide (x.os.length≤40)))))):=rfl
 have om:py x=(x.vars.all iN&&(x.ap.all jZ&&x.os.all j6)):=rfl
 rw[lq]at wO ⊢
 obtain⟨C,hC⟩: ∃C,C=iK x:=⟨_,rfl⟩
 rw[←hC]at hG wO
 refine cF bN Tryz.func21 U9 (by simp only[b3,I.flat,dG,dp,of_flat,Bool.and_self]) rfl ?_
 unfold vg QA
 simp(disch:=omega)only[go_sem,simprocAttr]
 refine ao ?_
 refine D.P (ar) ?_
 cases pn:db x.name
 ·rw[pn,Bool.false_and]at na
  rw[na,Bool.false_and]at hG
  refine ao ?_
  first|refine D.R ?_|refine D.E ?_
  exact⟨_,rfl,.av (by rw[hG]; rfl) rfl,trivial,trivial⟩
 refine ao ?_
 refine D.P (ax) ?_
 cases mc:db x.hD
 ·rw[pn,mc,Bool.false_and,Bool.and_false]at na
  rw[na,Bool.false_and]at hG
  refine ao ?_
  first|refine D.R ?_|refine D.E ?_
  exact⟨_,rfl,.av (by rw[hG]; rfl) rfl,trivial,trivial⟩
 refine ao ?_
 refine D.P (cw) ?_
 cases sp:db x.hA
 ·rw[pn,mc,sp,Bool.false_and,Bool.and_false,Bool.and_false]at na
  rw[na,Bool.false_and]at hG
  refine ao ?_
  first|refine D.R ?_|refine D.E ?_
  exact⟨_,rfl,.av (by rw[hG]; rfl) rfl,trivial,trivial⟩
 rw[pn,mc,sp,Bool.true_and,Bool.true_and,Bool.true_and]at na
 by_cases v1:x.vars.length≤12
 rotate_left
 ·have al:(12:Int)<((x.vars.map cb.row).length:Int):=by rw[List.length_map]; omega
  rw[decide_eq_false v1,Bool.false_and]at na
  rw[na,Bool.false_and]at hG
  (have al:=al;refine bQ ?_;clear al)
  first|refine D.R ?_|refine D.E ?_
  exact⟨_,rfl,.av (by rw[hG]; rfl) rfl,trivial,trivial⟩
 have al: ¬(12:Int)<((x.vars.map cb.row).length:Int):=by rw[List.length_map]; omega
 by_cases v2:x.ap.length≤40
 rotate_left
 ·have z2:(40:Int)<((x.ap.map cd.row).length:Int):=by rw[List.length_map]; omega
  rw[decide_eq_false v2,Bool.false_and,Bool.and_false]at na
  rw[na,Bool.false_and]at hG
  (have al:=al;have z2:=z2;refine e8 ?_;clear al z2)
  first|refine D.R ?_|refine D.E ?_
  exact⟨_,rfl,.av (by rw[hG]; rfl) rfl,trivial,trivial⟩
 have z2: ¬(40:Int)<((x.ap.map cd.row).length:Int):=by rw[List.length_map]; omega
 by_cases v3:x.os.length≤40
 rotate_left
 ·have z3:(40:Int)<((x.os.map ca.row).length:Int):=by rw[List.length_map]; omega
  rw[decide_eq_false v3,Bool.and_false,Bool.and_false]at na
  rw[na,Bool.false_and]at hG
  (have al:=al;have z2:=z2;have z3:=z3;refine ji ?_;clear al z2 z3)
  first|refine D.R ?_|refine D.E ?_
  exact⟨_,rfl,.av (by rw[hG]; rfl) rfl,trivial,trivial⟩
 have z3: ¬(40:Int)<((x.os.map ca.row).length:Int):=by rw[List.length_map]; omega
 rw[decide_eq_true v1,decide_eq_true v2,decide_eq_true v3,Bool.true_and,Bool.true_and]at na
 rw[na,Bool.true_and]at hG
 (have al:=al;have z2:=z2;have z3:=z3;refine ji ?_;clear al z2 z3)
 refine aj.dd (X:=Nat) 0 (fun i=>[(1,.ptr 0 0),(3,.int .i64 (i:Int))]) (fun _=>[(0,35,x.cells)]) (fun _=>[]) (fun i=>i≤x.vars.length∧(x.vars.drop i).all iN=x.vars.all iN) (fun i=>x.vars.length-i) ⟨Nat.zero_le _,rfl⟩ ⟨rfl,rfl,trivial⟩ ⟨by simp only[fG]; rfl,trivial⟩ trivial ?_
 rintro i ⟨ai,aB⟩
 try simp only at ai aB ⊢
 simp only[fG]
 cases af:x.vars[i]? with
 |some v=>
  have cK:=(List.getElem?_eq_some_iff.1 af).1
  have d1:(i:Int)<((x.vars.map cb.row).length:Int):=by rw[List.length_map]; omega
  have e:=ax8 v
  rw[iM af]at aB
  simp only[List.all_cons]at aB
  generalize iN v=oj at*
  rcases v with ⟨h7,hV,cz,gB,ik,n,s⟩
  simp only[cb.row]at e
  (have al:=d1;refine bQ ?_;clear al)
  refine D.P (e) ?_
  cases oj
  ·rw[Bool.false_and]at aB
   rw[om,←aB,Bool.false_and,Bool.false_and]at hG
   refine ao ?_
   first|refine D.R ?_|refine D.E ?_
   exact⟨_,rfl,.av (by rw[hG]; rfl) rfl,trivial,trivial⟩
  ·refine ao ?_
   refine aj.dK (i+1) ⟨by omega,by simpa using aB⟩ ⟨rfl,by simp only[Int.natCast_add]; rfl,trivial⟩ ⟨rfl,trivial⟩ trivial rfl rfl (by show x.vars.length-(i+1)<x.vars.length-i; omega)
 |none=>
 have cM:=List.getElem?_eq_none_iff.1 af
 have bE:i=x.vars.length:=by omega
 subst bE
 have d1: ¬(x.vars.length:Int)<((x.vars.map cb.row).length:Int):=by rw[List.length_map]; omega
 rw[List.drop_length]at aB
 have YC:x.vars.all iN=true:=aB.symm
 clear aB af cM ai
 rw[YC,Bool.true_and]at om
 (have al:=d1;refine bQ ?_;clear al)
 refine aj.dd (X:=Nat) 0 (fun i=>[(1,.ptr 0 0),(4,.int .i64 (i:Int))]) (fun _=>[(0,35,x.cells)]) (fun _=>[]) (fun i=>i≤x.ap.length∧(x.ap.drop i).all jZ=x.ap.all jZ) (fun i=>x.ap.length-i) ⟨Nat.zero_le _,rfl⟩ ⟨rfl,rfl,trivial⟩ ⟨by simp only[fG]; rfl,trivial⟩ trivial ?_
 rintro i ⟨ai,aB⟩
 try simp only at ai aB ⊢
 simp only[fG]
 cases af:x.ap[i]? with
 |some v=>
  have cK:=(List.getElem?_eq_some_iff.1 af).1
  have gN:=List.mem_of_getElem? af
  have d2:(i:Int)<((x.ap.map cd.row).length:Int):=by rw[List.length_map]; omega
  have Lu:=hb.aP v gN
  have Bg:=hb.hp v gN
  have fR:=O4 v.eK (pR v gN)
  have il:=r9 v.peer
  have gl:=Fz 10000 v.body 10 Lu (by omega) (by omega)
  rw[iM af]at aB
  rw[List.all_cons,X8]at aB
  rcases v with ⟨eK,peer,ps,body⟩
  simp only at fR il gl Bg aB
  generalize kR eK=eB at*
  generalize db peer=dU at*
  generalize oh body 10=jj at*
  (have al:=d2;refine bQ ?_;clear al)
  refine D.P (fR) ?_
  cases eB
  ·rw[Bool.false_and,Bool.false_and]at aB
   rw[Bool.false_and]at aB
   rw[om,←aB,Bool.false_and,Bool.false_and]at hG
   refine ao ?_
   first|refine D.R ?_|refine D.E ?_
   exact⟨_,rfl,.av (by rw[hG]; rfl) rfl,trivial,trivial⟩
  refine ao ?_
  refine D.P (il) ?_
  cases dU
  ·rw[Bool.false_and,Bool.and_false,Bool.false_and]at aB
   rw[Bool.false_and]at aB
   rw[om,←aB,Bool.false_and,Bool.false_and]at hG
   refine ao ?_
   first|refine D.R ?_|refine D.E ?_
   exact⟨_,rfl,.av (by rw[hG]; rfl) rfl,trivial,trivial⟩
  by_cases BF:ps.length≤4
  rotate_left
  ·have qa:(4:Int)<((ps.map cj).length:Int):=by rw[List.length_map]; omega
   rw[decide_eq_false BF,Bool.false_and,Bool.and_false,Bool.and_false,Bool.false_and,Bool.false_and]at aB
   rw[om,←aB,Bool.false_and,Bool.false_and]at hG
   (have al:=qa;refine bQ ?_;clear al)
   first|refine D.R ?_|refine D.E ?_
   exact⟨_,rfl,.av (by rw[hG]; rfl) rfl,trivial,trivial⟩
  have qa: ¬(4:Int)<((ps.map cj).length:Int):=by rw[List.length_map]; omega
  (have al:=qa;refine bQ ?_;clear al)
  refine D.P (gl) ?_
  cases jj
  ·rw[Bool.and_false,Bool.and_false,Bool.and_false,Bool.false_and]at aB
   rw[Bool.false_and]at aB
   rw[om,←aB,Bool.false_and,Bool.false_and]at hG
   refine ao ?_
   first|refine D.R ?_|refine D.E ?_
   exact⟨_,rfl,.av (by rw[hG]; rfl) rfl,trivial,trivial⟩
  rw[decide_eq_true BF,Bool.true_and,Bool.true_and,Bool.true_and,Bool.true_and]at aB
  refine ao ?_
  refine aj.dd (X:=Nat) 0 (fun j=>[(1,.ptr 0 0),(5,.ptr 1 0),(4,.int .i64 (i:Int)),(6,.int .i64 (j:Int))]) (fun _=>[(1,99,(cd.mk eK peer ps body).row),(0,35,x.cells)]) (fun _=>[]) (fun j=>j≤ps.length∧(ps.drop j).all db=ps.all db) (fun j=>ps.length-j) ⟨Nat.zero_le _,rfl⟩ ⟨rfl,rfl,rfl,rfl,trivial⟩ ⟨by simp only[fZ]; rfl,by simp only[fG]; rfl,trivial⟩ trivial ?_
  rintro j ⟨bq,hw⟩
  try simp only at bq hw ⊢
  simp only[fG,fZ]
  cases ab:ps[j]? with
  |some s=>
   have Zu:=(List.getElem?_eq_some_iff.1 ab).1
   have d3:(j:Int)<((ps.map cj).length:Int):=by rw[List.length_map]; omega
   have mB:=r9 s
   rw[iM ab,List.all_cons]at hw
   generalize db s=pC at*
   (have al:=d3;refine bQ ?_;clear al)
   refine D.P (mB) ?_
   cases pC
   ·rw[Bool.false_and]at hw
    rw[←hw,Bool.false_and]at aB
    rw[om,←aB,Bool.false_and,Bool.false_and]at hG
    refine ao ?_
    first|refine D.R ?_|refine D.E ?_
    exact⟨_,rfl,.av (by rw[hG]; rfl) rfl,trivial,trivial⟩
   ·refine ao ?_
    refine aj.dK (j+1) ⟨by omega,by simpa using hw⟩ ⟨rfl,rfl,rfl,by simp only[Int.natCast_add]; rfl,trivial⟩ ⟨rfl,rfl,trivial⟩ trivial rfl rfl (by show ps.length-(j+1)<ps.length-j; omega)
  |none=>
   have cM:=List.getElem?_eq_none_iff.1 ab
   have bE:j=ps.length:=by omega
   subst bE
   have d3: ¬(ps.length:Int)<((ps.map cj).length:Int):=by rw[List.length_map]; omega
   rw[List.drop_length]at hw
   rw[←hw]at aB
   (have al:=d3;refine bQ ?_;clear al)
   refine aj.gT (i+1) ⟨by omega,by simpa using aB⟩ ⟨rfl,by simp only[Int.natCast_add]; rfl,trivial⟩ ⟨rfl,trivial⟩ trivial rfl (by simp only[fY,dr,dP,dV,fO,I.cR,b2.bJ,fG,dG,dp,of_flat,go_sem]<;>rfl) (by show x.ap.length-(i+1)<x.ap.length-i; omega)
 |none=>
 have cM:=List.getElem?_eq_none_iff.1 af
 have bE:i=x.ap.length:=by omega
 subst bE
 have d1: ¬(x.ap.length:Int)<((x.ap.map cd.row).length:Int):=by rw[List.length_map]; omega
 rw[List.drop_length]at aB
 have Yz:x.ap.all jZ=true:=aB.symm
 clear aB af cM ai
 rw[Yz,Bool.true_and]at om
 (have al:=d1;refine bQ ?_;clear al)
 refine aj.dd (X:=Nat) 0 (fun i=>[(1,.ptr 0 0),(7,.int .i64 (i:Int))]) (fun _=>[(0,35,x.cells)]) (fun _=>[]) (fun i=>i≤x.os.length∧(x.os.drop i).all j6=x.os.all j6) (fun i=>x.os.length-i) ⟨Nat.zero_le _,rfl⟩ ⟨rfl,rfl,trivial⟩ ⟨by simp only[fG]; rfl,trivial⟩ trivial ?_
 rintro i ⟨ai,aB⟩
 try simp only at ai aB ⊢
 simp only[fG]
 cases af:x.os[i]? with
 |some v=>
  have cK:=(List.getElem?_eq_some_iff.1 af).1
  have gN:=List.mem_of_getElem? af
  have d2:(i:Int)<((x.os.map ca.row).length:Int):=by rw[List.length_map]; omega
  have Lu:=hb.o6 v gN
  have fR:=O4 v.eK (rW v gN)
  have il:=r9 v.peer
  have gl:=O5 v.args 4 (by omega)
  have mB:=O5 v.dT 1 (by omega)
  rw[iM af]at aB
  rw[List.all_cons,X9]at aB
  rcases v with ⟨eK,peer,args,dT⟩
  simp only at fR il gl mB aB
  generalize kR eK=eB at*
  generalize db peer=dU at*
  generalize vi args 4=jj at*
  generalize vi dT 1=kD at*
  (have al:=d2;refine bQ ?_;clear al)
  refine D.P (fR) ?_
  cases eB
  ·rw[Bool.false_and,Bool.false_and]at aB
   rw[om,←aB,Bool.false_and]at hG
   refine ao ?_
   first|refine D.R ?_|refine D.E ?_
   exact⟨_,rfl,.av (by rw[hG]; rfl) rfl,trivial,trivial⟩
  refine ao ?_
  refine D.P (il) ?_
  cases dU
  ·rw[Bool.false_and,Bool.and_false,Bool.false_and]at aB
   rw[om,←aB,Bool.false_and]at hG
   refine ao ?_
   first|refine D.R ?_|refine D.E ?_
   exact⟨_,rfl,.av (by rw[hG]; rfl) rfl,trivial,trivial⟩
  refine ao ?_
  refine D.P (gl) ?_
  cases jj
  ·rw[Bool.false_and,Bool.and_false,Bool.and_false,Bool.false_and]at aB
   rw[om,←aB,Bool.false_and]at hG
   refine ao ?_
   first|refine D.R ?_|refine D.E ?_
   exact⟨_,rfl,.av (by rw[hG]; rfl) rfl,trivial,trivial⟩
  refine ao ?_
  refine D.P (mB) ?_
  cases kD
  ·rw[Bool.and_false,Bool.and_false,Bool.and_false,Bool.false_and]at aB
   rw[om,←aB,Bool.false_and]at hG
   refine ao ?_
   first|refine D.R ?_|refine D.E ?_
   exact⟨_,rfl,.av (by rw[hG]; rfl) rfl,trivial,trivial⟩
  rw[Bool.true_and,Bool.true_and,Bool.true_and,Bool.true_and]at aB
  refine ao ?_
  refine aj.gT (i+1) ⟨by omega,aB⟩ ⟨rfl,by simp only[Int.natCast_add]; rfl,trivial⟩ ⟨rfl,trivial⟩ trivial rfl (by simp only[fY,dr,dP,dV,fO,I.cR,b2.bJ,fG,dG,dp,of_flat,go_sem]<;>rfl) (by show x.os.length-(i+1)<x.os.length-i; omega)
 |none=>
 have cM:=List.getElem?_eq_none_iff.1 af
 have bE:i=x.os.length:=by omega
 subst bE
 have d1: ¬(x.os.length:Int)<((x.os.map ca.row).length:Int):=by rw[List.length_map]; omega
 rw[List.drop_length]at aB
 rw[←aB]at om
 have Lr:py x=true:=om
 have EX:=wO na Lr
 rw[Lr,Bool.true_and]at hG
 (have al:=d1;refine bQ ?_;clear al)
 refine D.P (EX) ?_
 refine ao ?_
 first|refine D.R ?_|refine D.E ?_
 refine⟨_,rfl,.av ?_ rfl,trivial,trivial⟩
 rw[hG]
 simp only[I.av,I.bool.injEq]
 exact decide_eq_decide.2 (by omega)
theorem aw6 (x:e9) (hb:oI x) (pR: ∀h∈x.ap,h.eK.length≤1000000000000000) (rW: ∀o∈x.os,o.eK.length≤1000000000000000):Pure Tryz.prog 20 [x.ir] (xC x):=by
 have ar:=O0 x hb pR rW
 have ax:kJ x=true→Pure Tryz.prog 57 [x.ir] (.str (iK x)):=fun h=>by
  simp only[kJ,Bool.and_eq_true]at h
  exact O2 x (Cv hb h.1 h.2.1)
 have qD:xC x=if kJ x=true then .di [.str (iK x),.int .i64 0] else .di [.str [],.int .i64 1]:=rfl
 rw[qD]
 rw[lq]at ar ax ⊢
 generalize iK x=C at*
 generalize kJ x=g at*
 cases g
 ·rw[if_neg (by decide)]
  refine cF bN Tryz.func20 HJ (by simp only[b3,I.flat,dG,dp,of_flat,Bool.and_self]) rfl ?_
  unfold tY FK
  simp(disch:=omega)only[go_sem,simprocAttr]
  refine ao ?_
  refine D.P (ar) ?_
  refine ao ?_
  first|refine D.R ?_|refine D.E ?_
  exact⟨_,rfl,.av rfl rfl,trivial,trivial⟩
 ·rw[if_pos rfl]
  have ax:=ax rfl
  refine cF bN Tryz.func20 HJ (by simp only[b3,I.flat,dG,dp,of_flat,Bool.and_self]) rfl ?_
  unfold tY FK
  simp(disch:=omega)only[go_sem,simprocAttr]
  refine ao ?_
  refine D.P (ar) ?_
  refine ao ?_
  refine D.P (ax) ?_
  refine ao ?_
  first|refine D.R ?_|refine D.E ?_
  exact⟨_,rfl,.av rfl rfl,trivial,trivial⟩
end
end Go.bc.T.N
namespace Go.bc
open Go Go.bc.T.N
theorem wk {a:Int}(aw: -9223372036854775808≤a) (J:a<9223372036854775808):IntKind.i64.wrap a=a:=by
 simp only[IntKind.wrap,IntKind.bits,IntKind.signed]
 simp
 omega
mutual
theorem ad.Am: ∀x:ad,x.bI≤100000000→x.am=(x.bI:Int)-1
 | .mk _ _ _ _ _ l,h=>by
  simp only[ad.bI]at h
  have aH:=ad.hZ l
  simp only[ad.am,ad.bI]
  rw[ad.sC l (l.length:Int) (by omega) (by omega) (by omega)]
  omega
theorem ad.sC: ∀(l:List ad) (n:Int),ad.bB l≤100000000→0≤n→n+(ad.bB l:Int)≤1000000000000→ad.iH l n=n+((ad.bB l:Int)-l.length)
 |[],n,_,_,_=>by simp [ad.iH,ad.bB]
 |x::l,n,h,aw,J=>by
  simp only[ad.bB]at h J
  have hp:1≤x.bI:=by cases x; simp only[ad.bI]; omega
  rw[ad.iH,ad.Am x (by omega),wk (by omega) (by omega),ad.sC l _ (by omega) (by omega) (by omega)]
  simp only[ad.bB,List.length_cons]
  omega
end
mutual
theorem ac.Am: ∀x:ac,x.bI≤100000000→x.am=(x.bI:Int)-1
 | .mk _ _ x _ a b,h=>by
  simp only[ac.bI]at h
  have hp:1≤x.bI:=by cases x; simp only[ad.bI]; omega
  have aP:=ac.hZ a
  have hb:=ac.hZ b
  simp only[ac.am,ac.bI]
  rw[ad.Am x (by omega),ac.sC a (a.length:Int) (by omega) (by omega) (by omega),ac.sC b (b.length:Int) (by omega) (by omega) (by omega),wk (a:=1+ _) (by omega) (by omega),wk (a:=1+ _+ _) (by omega) (by omega),wk (by omega) (by omega)]
  omega
theorem ac.sC: ∀(l:List ac) (n:Int),ac.bB l≤100000000→0≤n→n+(ac.bB l:Int)≤1000000000000→ac.iH l n=n+((ac.bB l:Int)-l.length)
 |[],n,_,_,_=>by simp [ac.iH,ac.bB]
 |x::l,n,h,aw,J=>by
  simp only[ac.bB]at h J
  have hp:1≤x.bI:=by cases x; simp only[ac.bI]; omega
  rw[ac.iH,ac.Am x (by omega),wk (by omega) (by omega),ac.sC l _ (by omega) (by omega) (by omega)]
  simp only[ac.bB,List.length_cons]
  omega
end
def ph:List cd→Nat
 |[]=>0
 |h::l=>ac.bB h.body+ph l
def pi:List ca→Nat
 |[]=>0
 |o::l=>ad.bB o.args+ad.bB o.dT+pi l
theorem KU: ∀(l:List cd) (n:Int) (z:Int),ph l≤100000000→0≤n→n+(ph l:Int)≤1000000000000→rE l n=some z→z=n+ph l∧∀h∈l,h.ps.length≤60∧ac.bB h.body≤ph l
 |[],n,z,_,_,_,h=>by
  simp only[rE,Option.some.injEq]at h
  simp [ph,h]
 |h::l,n,z,ap,aw,J,aW=>by
  simp only[ph]at ap J
  simp only[rE]at aW
  by_cases hp:60<h.ps.length
  ·rw[if_pos hp]at aW; cases aW
  rw[if_neg hp]at aW
  have aH:=ac.hZ h.body
  rw[ac.sC h.body (h.body.length:Int) (by omega) (by omega) (by omega),wk (by omega) (by omega)]at aW
  obtain⟨e,k⟩:=KU l _ z (by omega) (by omega) (by omega) aW
  refine⟨by simp only[ph]; omega,fun g aY=> ?_⟩
  simp only[ph]
  rcases List.mem_cons.1 aY with rfl|aY
  ·exact⟨by omega,by omega⟩
  ·have:=k g aY
   exact⟨this.1,by omega⟩
theorem KV: ∀(l:List ca) (n:Int),pi l≤100000000→0≤n→n+(pi l:Int)≤1000000000000→rF l n=n+pi l
 |[],n,_,_,_=>by simp [rF,pi]
 |o::l,n,ap,aw,J=>by
  simp only[pi]at ap J
  have aP:=ad.hZ o.args
  have hb:=ad.hZ o.dT
  rw[rF,ad.sC o.args (o.args.length:Int) (by omega) (by omega) (by omega),ad.sC o.dT (o.dT.length:Int) (by omega) (by omega) (by omega)]
  simp (disch:=omega) only[wk]
  rw[KV l _ (by omega) (by omega) (by omega)]
  simp only[pi]
  omega
theorem R2: ∀ {l:List ca}{o:ca},o∈l→ad.bB o.args+ad.bB o.dT≤pi l
 |p::l,o,h=>by
  simp only[pi]
  rcases List.mem_cons.1 h with rfl|h
  ·omega
  ·have:=R2 h; omega
theorem XN {x:e9}(J:ph x.ap≤100000000) (aa:pi x.os≤100000000) (aW:ub x=true):oI x:=by
 unfold ub at aW
 cases bh:rE x.ap 0 with
 |none=>rw[bh]at aW; cases aW
 |some n=>
  rw[bh]at aW
  obtain⟨e,k⟩:=KU x.ap 0 n J (by omega) (by omega) bh
  simp only[Bool.and_eq_true,decide_eq_true_eq]at aW
  rw[KV x.os n aa (by omega) (by omega)]at aW
  obtain⟨f1,f2,f3,f4⟩:=aW
  exact⟨fun h hm=>by have:=(k h hm).2; omega,fun h hm=>by have:=(k h hm).1; omega,fun o hm=>by have:=R2 hm; omega,by omega,by omega,by omega⟩
theorem R0: ∀l:List cd,ph l≤n5 (l.map cd.row)
 |[]=>by simp [ph]
 |h::l=>by
  have:=R0 l
  have:=ac.sD h.body
  simp only[ph,List.map_cons,n5,cd.row,iI,I.oJ]
  omega
theorem R1: ∀l:List ca,pi l≤n5 (l.map ca.row)
 |[]=>by simp [pi]
 |o::l=>by
  have:=R1 l
  have:=ad.sD o.args
  have:=ad.sD o.dT
  simp only[pi,List.map_cons,n5,ca.row,iI,I.oJ]
  omega
theorem TP {x:e9}(h:iI x.cells≤100000000) (aW:ub x=true):oI x:=by
 have J:=R0 x.ap
 have aa:=R1 x.os
 simp only[e9.cells,iI,I.oJ]at h
 exact XN (by omega) (by omega) aW
end Go.bc
namespace Go.bc.T.N
open Go Go.bc Go.Proofs Go.RowKit
set_option maxRecDepth 100000
attribute [local irreducible] Go.bc.aj Go.bc.ae Go.bc.bz
section
attribute [local go_sem] ad.ct ac.ct ad.b9 ac.b9 cj eN fZ gJ dp of_flat
attribute [local go_sem] cb.row dG fG mV
theorem gw {R:Nat}(an:R≤140737488355328) (ui:Pure Tryz.prog 11 [] (.bool true)) (x:e9) (ab:x.ok R) (D6:iI x.cells≤100000000):Pure Tryz.prog 4 [x.ir] (.bool true):=by
 have f1:=av4 an x ab
 have gQ:=aw1 an x ab
 cases aW:ub x with
 |false=>
  rw[aW]at f1
  rw[lq]at*
  refine cF bN Tryz.func4 iJ (by simp only[b3,I.flat,dG,dp,of_flat,Bool.and_self]) rfl ?_
  unfold fq fk
  simp(disch:=omega)only[go_sem,simprocAttr]
  refine ao ?_
  refine D.P (ui) ?_
  refine ao ?_
  refine D.P (f1) ?_
  refine ao ?_
  first|refine D.R ?_|refine D.E ?_
  exact⟨_,rfl,.av rfl rfl,trivial,trivial⟩
 |true=>
 rw[aW]at f1
 have hb:=TP D6 aW
 have pR: ∀h∈x.ap,h.eK.length≤1000000000000000:=fun h hm=>by have:=(ab.ap h hm).1; omega
 have rW: ∀o∈x.os,o.eK.length≤1000000000000000:=fun o hm=>by have:=(ab.os o hm).1; omega
 have ve:=OY x hb
 have tY:=aw6 x hb pR rW
 have oQ:=B5 x hb
 have vg:=O0 x hb pR rW
 have yy:=az5 x x hb
 rw[R4]at yy
 have qD:xC x=if kJ x=true then .di [.str (iK x),.int .i64 0] else .di [.str [],.int .i64 1]:=rfl
 have AK:=au3 x hb
 cases aY:kJ x with
 |false=>
  rw[qD,aY,if_neg (by decide)]at ve tY
  rw[aY]at oQ vg
  obtain⟨⟨y,p,e⟩,bG⟩: ∃q,q=tb []:=⟨_,rfl⟩
  have pI:=Fo [] (by decide)
  rw[←bG]at pI
  simp only[xA]at pI
  rw[lq]at*
  refine cF bN Tryz.func4 iJ (by simp only[b3,I.flat,dG,dp,of_flat,Bool.and_self]) rfl ?_
  unfold fq fk
  simp(disch:=omega)only[go_sem,simprocAttr]
  refine ao ?_
  refine D.P (ui) ?_
  refine ao ?_
  refine D.P (f1) ?_
  refine ao ?_
  refine D.P (gQ) ?_
  refine ao ?_
  refine D.P (ve) ?_
  refine ao ?_
  refine D.P (tY) ?_
  refine bK ?_
  (repeat (apply aj.s true true;(·simp(disch:=omega)only[go_sem,simprocAttr,]<;>with_reducible rfl)))
  refine aj.fs (anns:=[(.agg [.str x.name,.str x.hD,.str x.hA,.ay 7 (x.vars.map cb.row),.ay 4 (x.ap.map cd.row),.ay 4 (x.os.map ca.row)]),.bool false,.bool false]) ?_
  refine bK ?_
  refine D.df (gQ) ?_
  refine bK ?_
  refine D.df (oQ) ?_
  refine bK ?_
  refine D.df (vg) ?_
  refine ao ?_
  refine D.P (pI) ?_
  refine bK ?_
  (repeat (apply aj.s true true;(·simp(disch:=omega)only[go_sem,simprocAttr,]<;>with_reducible rfl)))
  refine aj.fs (anns:=[.undef,.undef]) ?_
  refine ao ?_
  first|refine D.R ?_|refine D.E ?_
  exact⟨_,rfl,.av rfl rfl,trivial,trivial⟩
 |true=>
  rw[qD,aY,if_pos rfl]at ve tY
  rw[aY]at oQ vg
  have aH:(iK x).length≤8000:=by
   simp only[kJ,Bool.and_eq_true,decide_eq_true_eq]at aY
   exact aY.2.2
  have pI:=Fo (iK x) (by omega)
  rw[aq0 aY]at pI
  simp only[xA]at pI
  generalize iK x=C at*
  rw[lq]at*
  refine cF bN Tryz.func4 iJ (by simp only[b3,I.flat,dG,dp,of_flat,Bool.and_self]) rfl ?_
  unfold fq fk
  simp(disch:=omega)only[go_sem,simprocAttr]
  refine ao ?_
  refine D.P (ui) ?_
  refine ao ?_
  refine D.P (f1) ?_
  refine ao ?_
  refine D.P (gQ) ?_
  refine ao ?_
  refine D.P (ve) ?_
  refine ao ?_
  refine D.P (tY) ?_
  refine bK ?_
  (repeat (apply aj.s true true;(·simp(disch:=omega)only[go_sem,simprocAttr,]<;>with_reducible rfl)))
  refine aj.fs (anns:=[(.agg [.str x.name,.str x.hD,.str x.hA,.ay 7 (x.vars.map cb.row),.ay 4 (x.ap.map cd.row),.ay 4 (x.os.map ca.row)]),.bool true,.bool true]) ?_
  refine bK ?_
  refine D.df (gQ) ?_
  refine bK ?_
  refine D.df (oQ) ?_
  refine bK ?_
  refine D.df (vg) ?_
  refine ao ?_
  refine D.P (pI) ?_
  refine bK ?_
  (repeat (apply aj.s true true;(·simp(disch:=omega)only[go_sem,simprocAttr,]<;>with_reducible rfl)))
  refine aj.fs (anns:=[(.agg [.str x.name,.str x.hD,.str x.hA,.ay 7 (x.vars.map cb.row),.ay 4 (x.ap.map cd.row),.ay 4 (x.os.map ca.row)]),.bool true]) ?_
  refine bK ?_
  refine D.df (AK) ?_
  refine bK ?_
  refine D.df (yy) ?_
  refine ao ?_
  first|refine D.R ?_|refine D.E ?_
  exact⟨_,rfl,.av rfl rfl,trivial,trivial⟩
end
end Go.bc.T.N
set_option maxRecDepth 100000
namespace Go.bc.T.N
open Go Go.bc Go.Proofs Go.ChangeShapes Go.WideShapes Go.RowKit
def od:List TypeId:=[9,51,66,95,99,165]
theorem Xn:FT Tryz.prog od=true:=by kernel_rfl
theorem RF:lK Tryz.prog od 8 51=some [.ey (.i .i64),.ey .s,.ey .s,.ey .s,.ey (.i .i64),.io 51]:=by kernel_rfl
theorem aD2:lK Tryz.prog od 8 165=some [.ey (.i .i64),.ey .s,.ey (.i .i64),.ey .s,.ey .s,.ey .s,.ey (.i .i64),.io 51,.ey (.i .i64),.io 165,.io 165]:=by kernel_rfl
theorem aD5:lK Tryz.prog od 8 9=some [.ey .s]:=by kernel_rfl
theorem aD6:lK Tryz.prog od 8 95=some [.ey .s,.ey (.i .i64),.ey (.i .i64),.ey (.i .i64),.ey (.i .i64),.ey (.i .i64),.ey .s]:=by kernel_rfl
theorem aD7:lK Tryz.prog od 8 99=some [.ey .s,.ey .s,.io 9,.io 165]:=by kernel_rfl
theorem aD4:lK Tryz.prog od 8 66=some [.ey .s,.ey .s,.io 51,.io 51]:=by kernel_rfl
theorem aD3:lK Tryz.prog od 8 35=some [.ey .s,.ey .s,.ey .s,.io 95,.io 99,.io 66]:=by kernel_rfl
theorem Gf:Tryz.prog.cellsOf 51=6:=by kernel_rfl
theorem R5:Tryz.prog.cellsOf 165=11:=by kernel_rfl
theorem V9:Tryz.prog.cellsOf 9=1:=by kernel_rfl
theorem Wa:Tryz.prog.cellsOf 95=7:=by kernel_rfl
theorem Wb:Tryz.prog.cellsOf 99=4:=by kernel_rfl
theorem V8:Tryz.prog.cellsOf 66=4:=by kernel_rfl
theorem C9:Tryz.prog.bytesOf 51=88:=by kernel_rfl
theorem Hx:Tryz.prog.bytesOf 165=168:=by kernel_rfl
theorem Ar:Tryz.prog.bytesOf 9=16:=by kernel_rfl
theorem Tp:Tryz.prog.bytesOf 95=72:=by kernel_rfl
theorem Tq:Tryz.prog.bytesOf 99=80:=by kernel_rfl
theorem Tn:Tryz.prog.bytesOf 66=80:=by kernel_rfl
variable {R:Nat}
theorem KO (n:Nat) (r:List I) (h:n1 Tryz.prog od R n 51 r): ∃x:ad,r=x.row∧x.ok R:=DK RF Gf C9 n r h
theorem aH4 (n:Nat) (r:List I) (h:n1 Tryz.prog od R n 165 r): ∃x:ac,r=x.row∧x.ok R:=Gc RF Gf C9 aD2 R5 Hx n r h
theorem aH9: ∀(n:Nat) (r:List I),n1 Tryz.prog od R n 9 r→∃s:List UInt8,r=cj s∧s.length≤R
 |0,_,h=>h.elim
 |n+1,r,h=>by
  obtain⟨cu,J,aa⟩:=h
  rw[aD5]at J
  cases J
  simp only[jW,iq.ok]at aa
  obtain⟨_,_,rfl,⟨s,rfl,ap⟩,rfl⟩:=aa
  exact⟨s,rfl,ap⟩
theorem aM0: ∀(n:Nat) (r:List I),n1 Tryz.prog od R n 95 r→∃v:cb,r=v.row∧v.ok R
 |0,_,h=>h.elim
 |n+1,r,h=>by
  obtain⟨cu,J,aa⟩:=h
  rw[aD6]at J
  cases J
  simp only[jW,iq.ok]at aa
  obtain⟨_,_,rfl,⟨a,rfl,pn⟩,_,_,rfl,⟨b,rfl,mc⟩,_,_,rfl,⟨c,rfl,sp⟩,_,_,rfl,⟨d,rfl,wj⟩,_,_,rfl,⟨e,rfl,GH⟩,_,_,rfl,⟨f,rfl,GI⟩,_,_,rfl,⟨g,rfl,aM5⟩,rfl⟩:=aa
  exact⟨⟨a,b,c,d,e,f,g⟩,rfl,⟨pn,aM5⟩,mc,sp,wj,GH,GI⟩
theorem YA: ∀(n:Nat) (r:List I),n1 Tryz.prog od R n 99 r→∃v:cd,r=v.row∧v.ok R
 |0,_,h=>h.elim
 |n+1,r,h=>by
  obtain⟨cu,J,aa⟩:=h
  rw[aD7]at J
  cases J
  simp only[jW,iq.ok,V9,Ar,R5,Hx]at aa
  obtain⟨_,_,rfl,⟨a,rfl,pn⟩,_,_,rfl,⟨b,rfl,mc⟩,_,_,rfl,⟨bO,rfl,sp,bC⟩,_,_,rfl,⟨b4,rfl,wj,bA⟩,rfl⟩:=aa
  obtain⟨ps,rfl,hp⟩:=p5 (f:=cj) (p:=fun s=>s.length≤R) fun r hm=>aH9 n r (bC r hm)
  obtain⟨l,rfl,aH⟩:=p5 (f:=ac.row) (p:=ac.ok R) fun r hm=>aH4 n r (bA r hm)
  exact⟨⟨a,b,ps,l⟩,by simp only[cd.row,ac.l8],pn,mc,by simpa using sp,hp,by simpa using wj,ac.r6 aH⟩
theorem aj7: ∀(n:Nat) (r:List I),n1 Tryz.prog od R n 66 r→∃v:ca,r=v.row∧v.ok R
 |0,_,h=>h.elim
 |n+1,r,h=>by
  obtain⟨cu,J,aa⟩:=h
  rw[aD4]at J
  cases J
  simp only[jW,iq.ok,Gf,C9]at aa
  obtain⟨_,_,rfl,⟨a,rfl,pn⟩,_,_,rfl,⟨b,rfl,mc⟩,_,_,rfl,⟨bO,rfl,sp,bC⟩,_,_,rfl,⟨b4,rfl,wj,bA⟩,rfl⟩:=aa
  obtain⟨aM,rfl,J⟩:=p5 (f:=ad.row) (p:=ad.ok R) fun r hm=>KO n r (bC r hm)
  obtain⟨dZ,rfl,aa⟩:=p5 (f:=ad.row) (p:=ad.ok R) fun r hm=>KO n r (bA r hm)
  exact⟨⟨a,b,aM,dZ⟩,by simp only[ca.row,ad.l8],pn,mc,by simpa using sp,ad.r6 J,by simpa using wj,ad.r6 aa⟩
section
variable {H:Type}{enc:TypeId×Value→H}{w:World}{base:Nat}{spare:Nat→Bool}{held:Bool}
theorem ak6 {v:Value}{x:DataW H}{p:List MemPlace}{r:Reach}{hi:Nat}(aB: ∀n∈DataW.weights Tryz.prog 35 x,n≤R) (af:Value.okWide Tryz.prog w r hi 35 v) (h:DataW.Trod enc Tryz.prog w base spare held 35 v x p):
  ∃q:e9,(q.ok R∧iI q.cells≤jE x)∧∀m:Mem,m.w=w→m.H=aA.none→aR m q.ir v:=by
 obtain⟨n,kf,⟨J,aa⟩,au⟩:=aD9 Xn Tryz.underlying35 aD3 aB af h
 simp only[jW,iq.ok,Wa,Wb,V8,Tp,Tq,Tn]at J
 obtain⟨_,_,rfl,⟨a,rfl,pn⟩,_,_,rfl,⟨b,rfl,mc⟩,_,_,rfl,⟨c,rfl,sp⟩,_,_,rfl,⟨bO,rfl,wj,bC⟩,_,_,rfl,⟨b4,rfl,GH,bA⟩,_,_,rfl,⟨cJ,rfl,GI,cO⟩,rfl⟩:=J
 obtain⟨aM,rfl,g1⟩:=p5 (f:=cb.row) (p:=cb.ok R) fun r hm=>aM0 n r (bC r hm)
 obtain⟨dZ,rfl,g2⟩:=p5 (f:=cd.row) (p:=cd.ok R) fun r hm=>YA n r (bA r hm)
 obtain⟨o2,rfl,g3⟩:=p5 (f:=ca.row) (p:=ca.ok R) fun r hm=>aj7 n r (cO r hm)
 exact⟨⟨a,b,c,aM,dZ,o2⟩,⟨⟨pn,mc,sp,by simpa using wj,g1,by simpa using GH,g2,by simpa using GI,g3⟩,aa⟩,au⟩
end
end Go.bc.T.N
namespace Go.Proofs.YtjkbgcgljnldeaaGreatDoor
open Go.ChangeShapes Go.WideShapes Go.ChangeAt Go.RowKit
mutual
theorem Ik {H:Type}: ∀d:DataW H,Go.bc.jE d≤Rows.uptoBulk d
 | .lit l=>by cases l<;>simp [Go.bc.jE,Rows.uptoBulk]
 | .nil=>by simp [Go.bc.jE,Rows.uptoBulk]
 | .ptr d=>by simp [Go.bc.jE,Rows.uptoBulk]
 | .slice qu spare=>by
  have:=AE qu
  have:=AE spare
  simp only[Go.bc.jE,Rows.uptoBulk]
  omega
 | .agg parts=>by
  have:=AE parts
  simp only[Go.bc.jE,Rows.uptoBulk]
  omega
 | .iface _ d=>by simp [Go.bc.jE,Rows.uptoBulk]
 | .map entries=>by simp [Go.bc.jE,Rows.uptoBulk]
 | .held _=>by simp [Go.bc.jE,Rows.uptoBulk]
theorem AE {H:Type}: ∀l:List (DataW H),Go.bc.nE l≤Rows.uptoBulkAll l
 |[]=>by simp [Go.bc.nE,Rows.uptoBulkAll]
 |d::r=>by
  have:=Ik d
  have:=AE r
  simp only[Go.bc.nE,Rows.uptoBulkAll]
  omega
end
section
variable {H:Type}{enc:TypeId×Value→H}
theorem aC9 {a:Assume}{C:Checked}{os:Os}{f:FuncId}{fn:Func}{s:ChangeSpec}{conds:List PathCond}{apart fresh handsOn again:Bool}{X:World→Array Value→Prop}
  (uj: ∀(w w':World) (args:Array Value),w.heap=w'.heap→X w args→X w' args)
  (own:ownKnob C.prog.godebug=none) (started:os.Started) (aj3:C.prog.inits.idxOf? f=none) (xi:C.prog.funcs[f]? =some fn)
  (witness: ∃(w:World) (tape:Tape) (i:Input),w.os=os∧(w.forCall tape i).Shaped C.prog∧i.vars=[]∧Input.okWide C.prog (w.forCall tape i) .any w.heap.size f i∧
   (((Rows.OpenSpec.upto s).pre enc C.prog fn conds apart (w.forCall tape i).memory i.args∧X (w.forCall tape i).memory i.args)∧sizedMet enc C.prog fn (Rows.OpenSpec.upto s) apart (w.forCall tape i).memory i.args)∧a.holds C.prog (lone (Frame.enter C.prog f i.args .normal) [] (w.forCall tape i)))
  (contract: ∀(W:World) (base:Nat) (args:Array Value) (iZ gs:List (DataW H)) (before:List MemPlace),
   (∀(j:Nat) t v,fn.params[j]? =some t→args[j]? =some v→Value.okWide C.prog W .any base t v)→
   DataW.Whole enc C.prog fn.params.toList s.vars apart W args.toList iZ gs before→
   (DataW.weightsEach C.prog (fn.params.toList++s.plain.varTypes C.prog) (iZ++gs)).all (·≤reachBytes)=true→
   Rows.uptoBulkAll (iZ++gs)≤1048576→
   X W args→W.ShapedOpen C.prog→
   Calls C.prog f args W fun e CV=> ∃v,e= .returned v∧s.post enc C.prog fn apart fresh handsOn again W args v CV):
  ReturnsInHanded a C os f .any (fun w args=>((Rows.OpenSpec.upto s).pre enc C.prog fn conds apart w args∧X w args)∧sizedMet enc C.prog fn (Rows.OpenSpec.upto s) apart w args) (s.post enc C.prog fn apart fresh handsOn again):=by
 refine returnsInHanded_of_calls own started aj3 witness ?_
 intro w tape i _ Ev _ iy xm _
 obtain⟨_,_,_,XV,Za,_,_,_,_,Bz⟩:=iy
 obtain rfl:XV=fn:=Option.some.inj (Za.symm.trans xi)
 obtain⟨⟨⟨iZ,gs,before,hw,_,aC⟩,ab⟩,aB⟩:=xm
 have rT:Rows.uptoBulkAll (iZ++gs)≤1048576:=of_decide_eq_true aC
 have Ey:=DataW.Whole.of_heap (w':=w.forCall tape i) (by rfl) hw
 refine (contract (w.forCall tape i) w.heap.size i.args iZ gs before Bz Ey (aB.weights hw) rT (uj _ _ _ (by rfl) ab) Ev).mono fun e CV ⟨v,he,hp⟩=> ?_
 subst he
 exact ChangeSpec.post_blind hp
def Fg (enc:TypeId×Value→H) (P:Program) (f:Func) (s:ChangeSpec) (conds:List PathCond) (apart:Bool) (w:World) (args:Array Value) (jY:Nat):Bool:=
 match DataW.whole enc P w f.params.toList s.vars apart args.toList jY with
 |some x=>conds.all (PathCond.test P ⟨f.params.toList,x.1,s.plain.varTypes P,x.2.1⟩)&&decide (Rows.uptoBulkAll (x.1++x.2.1)≤1048576)
 |none=>false
theorem ar1 {P:Program}{w:World}{f:Func}{s:ChangeSpec}{conds:List PathCond}{apart:Bool}{args:Array Value}{jY:Nat}(h:Fg enc P f s conds apart w args jY=true):(Rows.OpenSpec.upto s).pre enc P f conds apart w args:=by
 unfold Fg at h
 split at h
 ·rename_i x ab
  rw[Bool.and_eq_true]at h
  exact⟨x.1,x.2.1,x.2.2,DataW.Whole_of_whole ab,h.1,h.2⟩
 ·cases h
theorem aM8 {C:Checked}{os:Os}{f:FuncId}{fn:Func}{s:ChangeSpec}{conds:List PathCond}{apart:Bool}{X:World→Array Value→Prop}(modest:Bool) (wi:World) (args:Array Value) (jY:Nat) (Bt:wi.os=os)
  (Ev:(wi.forCall (fun _ _=>0) ⟨#[],args,[]⟩).Shaped C.prog)
  (iy:Input.okWideB C.prog (wi.forCall (fun _ _=>0) ⟨#[],args,[]⟩) f ⟨#[],args,[]⟩=true)
  (xm:Fg enc C.prog fn s conds apart (wi.forCall (fun _ _=>0) ⟨#[],args,[]⟩).memory args jY=true)
  (dm:s.sizedB enc C.prog fn apart (wi.forCall (fun _ _=>0) ⟨#[],args,[]⟩).memory args jY=true)
  (ab:X (wi.forCall (fun _ _=>0) ⟨#[],args,[]⟩).memory args):
  ∃(w:World) (tape:Tape) (i:Input),w.os=os∧(w.forCall tape i).Shaped C.prog∧i.vars=[]∧Input.okWide C.prog (w.forCall tape i) .any w.heap.size f i∧
   (((Rows.OpenSpec.upto s).pre enc C.prog fn conds apart (w.forCall tape i).memory i.args∧X (w.forCall tape i).memory i.args)∧sizedMet enc C.prog fn (Rows.OpenSpec.upto s) apart (w.forCall tape i).memory i.args)∧({modest:=modest}:Assume).holds C.prog (lone (Frame.enter C.prog f i.args .normal) [] (w.forCall tape i)):=
 ⟨wi,fun _ _=>0,⟨#[],args,[]⟩,Bt,Ev,(Input.okWide_of_okWideB (base:=0) iy).1,(Input.okWide_of_okWideB iy).2,⟨⟨ar1 xm,ab⟩,sizedMet_of_sizedB dm⟩,by
  simp only[Assume.holds]
  exact⟨by simp,by simp,fun _=>Modest.zero,by simp,by simp⟩⟩
end
end Go.Proofs.YtjkbgcgljnldeaaGreatDoor
namespace Go.bc.T.N
open Go Go.bc Go.Proofs Go.RowKit
set_option maxRecDepth 100000
attribute [local irreducible] Go.bc.aj Go.bc.ae Go.bc.bz
section
theorem ax5 (q:e9) (bG:q.ok reachBytes) (hb:iI q.cells≤1048576):Pure Tryz.prog 4 [q.ir] (.bool true):=
 gw (R:=reachBytes) (by decide) as6 q bG (by omega)
end
end Go.bc.T.N
