/- Part of a proof; own work. -/
import Derived.Test.YtjkbgcgljnldeaaGreatDoorProg
import Derived.KernelRfl
import Derived.Test.YtjkbgcgljnldeaaGreatDoorUS12
set_option linter.unusedVariables false
set_option linter.unusedSimpArgs false
set_option maxHeartbeats 8000000
namespace Go.bc.T.N
open Go Go.bc Go.Proofs Go.RowKit
set_option maxRecDepth 100000
attribute [local irreducible] Go.bc.aj Go.bc.ae Go.bc.bz
section
attribute [local go_sem] ad.ct ac.ct ad.b9 ac.b9 cj eN
theorem OR (z:Int):Pure Tryz.prog 139 [.int .u8 z] (.bool (xr z)):=by
 refine cF bN Tryz.func139 Uq rfl rfl ?_
 unfold Jh PR
 simp(disch:=omega)only[go_sem,simprocAttr]
 (repeat' first|refine D.S ?_|refine D.cN true true ?_|refine ae.nil ?_|refine aj.b6 ?_|refine D.W ?_|refine D.Z ?_|refine D.G ?_ ?_|refine D.X ‹_› ?_|refine D.eh ‹_› ?_|refine D.ei ‹_› ?_|intro h|refine D.C ?_ ?_)
 all_goals (refine D.R ?_)
 all_goals (refine⟨_,rfl,.av ?_ rfl,trivial,trivial⟩; simp_all [xr,I.av]<;>(try omega))
theorem au2 (z:Int):Pure Tryz.prog 141 [.int .u8 z] (.bool (vc z)):=by
 refine cF bN Tryz.func141 Ut rfl rfl ?_
 unfold Jj PU
 simp(disch:=omega)only[go_sem,simprocAttr]
 (repeat' first|refine D.S ?_|refine D.cN true true ?_|refine ae.nil ?_|refine aj.b6 ?_|refine D.W ?_|refine D.Z ?_|refine D.G ?_ ?_|refine D.X ‹_› ?_|refine D.eh ‹_› ?_|refine D.ei ‹_› ?_|intro h|refine D.C ?_ ?_)
 all_goals (refine D.R ?_)
 all_goals (refine⟨_,rfl,.av ?_ rfl,trivial,trivial⟩; simp_all [vc,I.av]<;>(try omega))
theorem au1 (z:Int):Pure Tryz.prog 140 [.int .u8 z] (.bool (uu z)):=by
 refine cF bN Tryz.func140 Us rfl rfl ?_
 unfold Ji PT
 simp(disch:=omega)only[go_sem,simprocAttr]
 refine ao ?_
 refine D.P (OR z) ?_
 (repeat' first|refine D.S ?_|refine D.cN true true ?_|refine ae.nil ?_|refine aj.b6 ?_|refine D.W ?_|refine D.Z ?_|refine D.G ?_ ?_|refine D.X ‹_› ?_|refine D.eh ‹_› ?_|refine D.ei ‹_› ?_|intro h|refine D.C ?_ ?_)
 ·first|refine D.R ?_|refine D.E ?_
  refine⟨_,rfl,.av ?_ rfl,trivial,trivial⟩
  simp_all [uu,I.av]
 refine D.P (au2 z) ?_
 (repeat' first|refine D.S ?_|refine D.cN true true ?_|refine ae.nil ?_|refine aj.b6 ?_|refine D.W ?_|refine D.Z ?_|refine D.G ?_ ?_|refine D.X ‹_› ?_|refine D.eh ‹_› ?_|refine D.ei ‹_› ?_|intro h|refine D.C ?_ ?_)
 all_goals (refine D.R ?_)
 all_goals (refine⟨_,rfl,.av ?_ rfl,trivial,trivial⟩; simp_all [uu,I.av]<;>(try omega))
theorem at6 (l:List a7) (s:a7) (aH:l.length≤1000000000):Pure Tryz.prog 133 [.ay 1 (l.map cj),.str s] (.bool (l.contains s)):=by
 refine cF bN Tryz.func133 Uk (by simp only[b3,I.flat,eN,Bool.and_self]) rfl ?_
 unfold Jb PL
 simp(disch:=omega)only[go_sem,simprocAttr]
 refine ao ?_
 refine aj.dd (X:=Nat) 0 (fun i=>[(0,.ay 1 (l.map cj)),(1,.str s),(5,.int .i64 (i:Int))]) (fun _=>[]) (fun _=>[]) (fun i=>i≤l.length∧(l.drop i).contains s=l.contains s) (fun i=>l.length-i) ⟨Nat.zero_le _,rfl⟩ ⟨rfl,rfl,rfl,trivial⟩ trivial trivial ?_
 rintro i ⟨ai,aB⟩
 try simp only at ai aB ⊢
 cases af:l[i]? with
 |some v=>
  have cK:=(List.getElem?_eq_some_iff.1 af).1
  have d1:(i:Int)<((l.map cj).length:Int):=by rw[List.length_map]; omega
  rw[iM af]at aB
  by_cases ab:v=s
  ·simp only[List.contains_cons,ab,beq_self_eq_true,Bool.true_or]at aB
   (have al:=d1;have z2:=ab;refine e8 ?_;clear al z2)
   first|refine D.R ?_|refine D.E ?_
   exact⟨_,rfl,.av (by rw[←aB]; rfl) rfl,trivial,trivial⟩
  ·have hQ:(s==v)=false:=by simpa using fun e:s=v=>ab e.symm
   simp only[List.contains_cons,hQ,Bool.false_or]at aB
   (have al:=d1;have z2:=ab;refine e8 ?_;clear al z2)
   refine aj.dK (i+1) ⟨by omega,aB⟩ ⟨rfl,rfl,by simp only[Int.natCast_add]; rfl,trivial⟩ trivial trivial rfl rfl (by show l.length-(i+1)<l.length-i; omega)
 |none=>
  have cM:=List.getElem?_eq_none_iff.1 af
  have bE:i=l.length:=by omega
  subst bE
  have d1: ¬(l.length:Int)<((l.map cj).length:Int):=by rw[List.length_map]; omega
  rw[List.drop_length]at aB
  (have al:=d1;refine bQ ?_;clear al)
  first|refine D.R ?_|refine D.E ?_
  exact⟨_,rfl,.av (by rw[←aB]; rfl) rfl,trivial,trivial⟩
end
section
attribute [local go_sem] ad.ct ad.b9 ad.de ac.ct ac.b9 ac.de cj eN fZ gJ dp of_flat
theorem Xq:(List.range 10).all (fun d=>(Utf8.encode (48+(d:Int))).data.toList==[UInt8.ofNat (48+d)])=true:=by kernel_rfl
theorem Xs {d:Nat}(h:d<10):(Utf8.encode (48+(d:Int))).data.toList=[UInt8.ofNat (48+d)]:=by
 have:=List.all_eq_true.1 Xq d (List.mem_range.2 h)
 simpa only[beq_iff_eq] using this
theorem ac1 {n:Nat}(h:n<10):Lib.itoa (n:Int)=[UInt8.ofNat (48+n)]:=by
 unfold Lib.itoa
 rw[if_neg (by omega),Int.toNat_natCast,wK h]
theorem ab9 {n:Nat}(h: ¬n<10):Lib.itoa (n:Int)=Lib.itoa ((n/10:Nat):Int)++[UInt8.ofNat (48+n%10)]:=by
 unfold Lib.itoa
 rw[if_neg (by omega),if_neg (by omega),Int.toNat_natCast,Int.toNat_natCast,yw h]
theorem Mt {n:Nat}(h:1≤n):Lib.itoa (-(n:Int))=45::Lib.decDigits n:=by
 unfold Lib.itoa
 rw[if_pos (by omega)]
 simp
theorem aJ5 (m:Nat):(-(m:Int)).tdiv 10= -((m/10:Nat):Int):=by rw[Int.neg_tdiv]; rfl
theorem ma (m:Nat):(-(m:Int)).tmod 10= -((m%10:Nat):Int):=by rw[Int.neg_tmod]; rfl
theorem aJ6 (m:Nat):(m:Int).tdiv 10=((m/10:Nat):Int):=rfl
theorem aJ7 (m:Nat):(m:Int).tmod 10=((m%10:Nat):Int):=rfl
theorem aM4 {d:Int}(aw:0≤d) (J:d<10):IntKind.i32.wrap (48+d)=48+d:=by
 simp only[IntKind.wrap,IntKind.bits,IntKind.signed]
 simp
 omega
attribute [local go_sem] aM4 Xs Int.sub_neg aJ5 ma aJ6 aJ7
theorem ay6: ∀n:Nat,n≤1000000000→Pure Tryz.prog 75 [.int .i64 (n:Int)] (.str (Lib.itoa (n:Int))):=by
 intro n
 induction n using Nat.strongRecOn with
 |ind n cv=>
 intro a6
 have J: ¬(n:Int)< -9:=by omega
 have aa: ¬(n:Int)<0:=by omega
 refine cF bN Tryz.func75 HK rfl rfl ?_
 unfold DE FL
 simp(disch:=omega)only[go_sem,simprocAttr]
 by_cases rM:n<10
 ·have au:(n:Int)<10:=by omega
  rw[ac1 rM]
  (have al:=J;have z2:=aa;have z3:=au;refine ji ?_;clear al z2 z3)
  first|refine D.R ?_|refine D.E ?_
  exact⟨_,rfl,.av rfl rfl,trivial,trivial⟩
 ·have au: ¬(n:Int)<10:=by omega
  have e:=cv (n/10) (by omega) (by omega)
  have aH:=Lib.itoa_length_le ((n/10:Nat):Int) (by omega) (by omega)
  rw[ab9 rM]
  generalize Lib.itoa ((n/10:Nat):Int)=s at*
  (have al:=J;have z2:=aa;have z3:=au;refine ji ?_;clear al z2 z3)
  refine D.P (e) ?_
  refine ao ?_
  refine D.bR ?_
  refine ao ?_
  first|refine D.R ?_|refine D.E ?_
  exact⟨_,rfl,.av rfl rfl,trivial,trivial⟩
theorem ay5: ∀n:Nat,1≤n→n≤1000000000→Pure Tryz.prog 75 [.int .i64 (-(n:Int))] (.str (Lib.itoa (-(n:Int)))):=by
 intro n
 induction n using Nat.strongRecOn with
 |ind n cv=>
 intro hp a6
 rw[Mt hp]
 refine cF bN Tryz.func75 HK rfl rfl ?_
 unfold DE FL
 simp(disch:=omega)only[go_sem,simprocAttr]
 by_cases rM:n<10
 ·have J: ¬ -(n:Int)< -9:=by omega
  have aa: -(n:Int)<0:=by omega
  rw[wK rM]
  (have al:=J;have z2:=aa;refine e8 ?_;clear al z2)
  refine D.bR ?_
  refine ao ?_
  first|refine D.R ?_|refine D.E ?_
  exact⟨_,rfl,.av rfl rfl,trivial,trivial⟩
 ·have J: -(n:Int)< -9:=by omega
  have e:=cv (n/10) (by omega) (by omega) (by omega)
  have aH:=Lib.itoa_length_le (-((n/10:Nat):Int)) (by omega) (by omega)
  rw[Mt (by omega)]at aH e
  rw[yw rM]
  generalize Lib.decDigits (n/10)=s at*
  (have al:=J;refine bQ ?_;clear al)
  refine D.P (e) ?_
  refine ao ?_
  simp only[List.length_cons]at aH
  refine D.bR ?_
  refine ao ?_
  first|refine D.R ?_|refine D.E ?_
  exact⟨_,rfl,.av rfl rfl,trivial,trivial⟩
theorem zw (n:Int) (aw: -1000000000≤n) (J:n≤1000000000):Pure Tryz.prog 75 [.int .i64 n] (.str (Lib.itoa n)):=by
 by_cases h:0≤n
 ·obtain⟨m,rfl⟩:=Int.eq_ofNat_of_zero_le h
  exact ay6 m (by omega)
 ·obtain⟨m,hm⟩:=Int.eq_ofNat_of_zero_le (a:= -n) (by omega)
  have:n= -(m:Int):=by omega
  subst this
  exact ay5 m (by omega) (by omega)
theorem O9 (s:a7) (ap:s.length≤100000000):Pure Tryz.prog 76 [.str s] (.str (p4 s)):=by
 refine cF bN Tryz.func76 VL rfl rfl ?_
 unfold Kp Re
 simp(disch:=omega)only[go_sem,simprocAttr]
 refine ao ?_
 refine aj.dd (X:=Nat×a7) (0,[34]) (fun x=>[(0,.str s),(3,.str x.2),(4,.int .i64 (x.1:Int))]) (fun _=>[]) (fun _=>[]) (fun x=>x.1≤s.length∧x.2=[34]++iC (s.take x.1)) (fun x=>s.length-x.1) ⟨Nat.zero_le _,rfl⟩ ⟨rfl,rfl,rfl,trivial⟩ trivial trivial ?_
 rintro⟨i,o⟩ ⟨ai,aB⟩
 try simp only at ai aB ⊢
 have aH:o.length≤300000000:=by
  have:=xG (s.take i)
  rw[aB,List.length_append,List.length_cons,List.length_nil]
  rw[List.length_take]at this
  omega
 cases af:s[i]? with
 |some v=>
  have cK:=(List.getElem?_eq_some_iff.1 af).1
  have d1:(i:Int)<(s.length:Int):=by omega
  have kM:(s.take (i+1))=s.take i++[v]:=by rw[List.take_add_one,af]; rfl
  have pS:(s.take (i+1)).drop i=[v]:=by
   rw[kM,List.drop_append_of_le_length (by rw[List.length_take]; omega),List.drop_eq_nil_of_le (by rw[List.length_take]; omega)]
   rfl
  have bG:iC [v]=if v.toNat=34∨v.toNat=92 then[92,v] else[v]:=by simp only[iC,List.append_nil]
  have mv:[34]++iC (s.take (i+1))=o++iC [v]:=by rw[kM,FF,←List.append_assoc,aB]
  rw[bG]at mv
  by_cases J:v.toNat=34
  ·have d2:(v.toNat:Int)=34:=by omega
   rw[if_pos (.inl J)]at mv
   (have al:=d1;have z2:=d2;refine e8 ?_;clear al z2)
   refine D.bR ?_
   refine ao ?_
   (apply ae.uM (i) (i+1);(·simp(disch:=omega)only[go_sem,simprocAttr]<;>with_reducible rfl);(·simp(disch:=omega)only[go_sem,simprocAttr]<;>with_reducible rfl);(·simp(disch:=omega)only[go_sem,simprocAttr]<;>with_reducible rfl);(·omega);(·omega);(·omega);(·(try simp only[List.length_map]);omega))
   rw[pS]
   refine ao ?_
   refine D.bR ?_
   refine ao ?_
   refine aj.dK (i+1,o++[92]++[v]) ⟨by omega,by simpa using mv.symm⟩ ⟨rfl,rfl,by simp only[Int.natCast_add]; rfl,trivial⟩ trivial trivial rfl rfl (by show s.length-(i+1)<s.length-i; omega)
  have d2: ¬(v.toNat:Int)=34:=by omega
  by_cases aa:v.toNat=92
  ·have d3:(v.toNat:Int)=92:=by omega
   rw[if_pos (.inr aa)]at mv
   (have al:=d1;have z2:=d2;have z3:=d3;refine ji ?_;clear al z2 z3)
   refine D.bR ?_
   refine ao ?_
   (apply ae.uM (i) (i+1);(·simp(disch:=omega)only[go_sem,simprocAttr]<;>with_reducible rfl);(·simp(disch:=omega)only[go_sem,simprocAttr]<;>with_reducible rfl);(·simp(disch:=omega)only[go_sem,simprocAttr]<;>with_reducible rfl);(·omega);(·omega);(·omega);(·(try simp only[List.length_map]);omega))
   rw[pS]
   refine ao ?_
   refine D.bR ?_
   refine ao ?_
   refine aj.dK (i+1,o++[92]++[v]) ⟨by omega,by simpa using mv.symm⟩ ⟨rfl,rfl,by simp only[Int.natCast_add]; rfl,trivial⟩ trivial trivial rfl rfl (by show s.length-(i+1)<s.length-i; omega)
  ·have d3: ¬(v.toNat:Int)=92:=by omega
   rw[if_neg (by omega)]at mv
   (have al:=d1;have z2:=d2;have z3:=d3;refine ji ?_;clear al z2 z3)
   (apply ae.uM (i) (i+1);(·simp(disch:=omega)only[go_sem,simprocAttr]<;>with_reducible rfl);(·simp(disch:=omega)only[go_sem,simprocAttr]<;>with_reducible rfl);(·simp(disch:=omega)only[go_sem,simprocAttr]<;>with_reducible rfl);(·omega);(·omega);(·omega);(·(try simp only[List.length_map]);omega))
   rw[pS]
   refine ao ?_
   refine D.bR ?_
   refine ao ?_
   refine aj.dK (i+1,o++[v]) ⟨by omega,by simpa using mv.symm⟩ ⟨rfl,rfl,by simp only[Int.natCast_add]; rfl,trivial⟩ trivial trivial rfl rfl (by show s.length-(i+1)<s.length-i; omega)
 |none=>
  have cM:=List.getElem?_eq_none_iff.1 af
  have bE:i=s.length:=by omega
  subst bE
  have d1: ¬(s.length:Int)<(s.length:Int):=by omega
  rw[List.take_length]at aB
  (have al:=d1;refine bQ ?_;clear al)
  refine D.bR ?_
  refine ao ?_
  first|refine D.R ?_|refine D.E ?_
  exact⟨_,rfl,.av (by rw[aB]; rfl) rfl,trivial,trivial⟩
end
section
attribute [local go_sem] ad.ct ad.b9 ad.de ac.ct ac.b9 ac.de cj eN fZ gJ dp of_flat
end
section
attribute [local go_sem] ad.ct ad.b9 ad.de ac.ct ac.b9 ac.de cj eN fZ gJ dp of_flat
end
section
attribute [local go_sem] ad.ct ad.b9 ad.de ac.ct ac.b9 ac.de cj eN fZ gJ dp of_flat
def kp (d:Nat):a7:=List.replicate d 9
def kc (d:Nat) (l:List ac):a7:=[123,10]++ac.fF (d+1) l++kp d++[125]
mutual
def ac.l2 (d:Nat):ac→a7
 | .mk k m x t a b=>if k=1 then m++[32,61,32]++cm x++[59]
  else if k=3 then[119,104,105,108,101,32]++cm x++[32,116,105,109,101,115,32]++Lib.itoa t++[32]++kc d a
  else[105,102,32]++cm x++[32]++kc d a++(if b.isEmpty=true then[] else[32,101,108,115,101,32]++(if jH b=true then ac.zf d b else kc d b))
def ac.zf (d:Nat):List ac→a7
 |[]=>[]
 |y:: _=>ac.l2 d y
end
def k6 (N:Nat):Prop:=∀(x:ac) (d:Nat),x.bI≤N→hX x=true→d+x.bI≤1000000→(ac.l2 d x).length≤1000000000→Pure Tryz.prog 184 [.agg x.row,.str (kp d)] (.str (ac.l2 d x))
end
section
attribute [local go_sem] ad.ct ad.b9 ad.de ac.ct ac.b9 ac.de cj eN fZ gJ dp of_flat
end
section
attribute [local go_sem] ad.ct ad.b9 ad.de ac.ct ac.b9 ac.de cj eN fZ gJ dp of_flat cb.row dG
end
section
attribute [local go_sem] ad.ct ad.b9 ad.de ac.ct ac.b9 ac.de cj eN fZ gJ dp of_flat
end
section
attribute [local go_sem] ad.ct ad.b9 ad.de ac.ct ac.b9 ac.de cj eN fZ gJ dp of_flat cb.row dG mV
end
section
attribute [local go_sem] ad.ct ad.b9 ad.de ac.ct ac.b9 ac.de cj eN fZ gJ dp of_flat cb.row dG mV
end
section
attribute [local go_sem] ad.ct ad.b9 ad.de ac.ct ac.b9 ac.de cj eN fZ gJ dp of_flat cb.row dG mV
end
end Go.bc.T.N
set_option maxRecDepth 100000
namespace Go.bc.T.N
open Go Go.bc Go.Proofs Go.ChangeShapes Go.WideShapes Go.RowKit
theorem Ar:Tryz.prog.bytesOf 9=16:=by kernel_rfl
variable {R:Nat}
section
variable {H:Type}{enc:TypeId×Value→H}{w:World}{base:Nat}{spare:Nat→Bool}{held:Bool}
end
end Go.bc.T.N
namespace Go.bc
open Go Go.bc.T.N
end Go.bc
namespace Go.bc.T.N
open Go Go.bc Go.Proofs Go.RowKit
set_option maxRecDepth 100000
attribute [local irreducible] Go.bc.aj Go.bc.ae Go.bc.bz
section
attribute [local go_sem] ba.row
def q4 (s:a7):uW→I
 | .ok t r=> .di [.agg t.row,.int .i64 ((s.length-r.length:Nat):Int),.int .i64 0]
 | .err e=> .di [.agg z4,.int .i64 0,.int .i64 e]
theorem r6 (s:a7) (R:uW):(q4 s R).flat=true:=by cases R<;>simp only[q4,I.flat,b3,ba.row,z4,Bool.and_self]
theorem DU {s:a7}: ∃w r:a7,s=w++r∧s.takeWhile iY=w∧s.dropWhile iY=r∧(∀(i:Nat) (c:UInt8),w[i]? =some c→iY c=true)∧(∀(c:UInt8) (y:a7),r=c::y→iY c=false):=by
 refine⟨_,_,(List.takeWhile_append_dropWhile (p:=iY) (l:=s)).symm,rfl,rfl,fun i c h=> ?_,fun c y h=> ?_⟩
 ·have:=W5 h
  simp [iY,vc,this]
 ·induction s with
  |nil=>cases h
  |cons d l cv=>
   rw[List.dropWhile_cons]at h
   split at h
   ·exact cv h
   ·rename_i bw
    cases h
    simpa using bw
theorem FT (s:a7) (ap:s.length≤1000000):Pure Tryz.prog 142 [.str s] (q4 s (vL s)):=by
 obtain⟨w,r,n0,hw,ag,Y0,Y1⟩:=DU (s:=s)
 obtain⟨R,an⟩: ∃R,R=zl w r:=⟨_,rfl⟩
 have bW:vL s=R:=by rw[vL,hw,ag,an]
 have hlen:s.length=w.length+r.length:=by rw[n0,List.length_append]
 rw[bW]
 clear bW hw ag
 refine cF bN Tryz.func142 Df rfl (r6 _ _) ?_
 unfold od Am
 simp(disch:=omega)only[go_sem,simprocAttr]
 refine ao ?_
 refine aj.dd (X:=Nat×Int) (0,0) (fun y=>[(0,.str s),(2,.ptr 0 0),(5,.int .i64 (y.1:Int)),(6,.int .i64 y.2)]) (fun y=>[(0,63,z4)]) (fun _=>[]) (fun y=>y.1≤w.length∧0≤y.2∧y.2≤1099511627776∧(w.length≤6→y.2<10^y.1∧pk (w.drop y.1) y.2=pk w 0)) (fun y=>w.length-y.1) ⟨Nat.zero_le _,Int.le_refl _,by decide,fun _=>⟨by decide,rfl⟩⟩ ⟨rfl,rfl,rfl,rfl,trivial⟩ ⟨rfl,trivial⟩ trivial ?_
 rintro⟨i,v⟩ ⟨ai,r0,By,aB⟩
 simp only at ai r0 By aB ⊢
 by_cases qu:i<w.length
 ·have qD:w[i]? =some w[i]:=List.getElem?_eq_getElem qu
  have tq:=Y0 i _ qD
  have af:s[i]? =some w[i]:=by rw[n0,List.getElem?_append_left qu]; exact qD
  rw[iM qD]at aB
  simp only[pk]at aB
  generalize w[i]=c at*
  have YX:48≤(c.toNat:Int)∧(c.toNat:Int)≤57:=by simpa [iY,vc] using tq
  have Jj:=au2 (c.toNat:Int)
  rw[show vc (c.toNat:Int)=true from tq]at Jj
  have d1:(i:Int)<(s.length:Int):=by omega
  have ar:IntKind.u8.wrap ((c.toNat:Int)-48)=(c.toNat:Int)-48:=SJ (by omega) (by omega)
  have hm:min (10*v+((c.toNat:Int)-48)) 1099511627776≤1099511627776:=Int.min_le_right _ _
  (have al:=d1;refine bQ ?_;clear al)
  refine D.P (Jj) ?_
  (have al:=d1;have z2:=ar;refine e8 ?_;clear al z2)
  refine aj.dK (i+1,min (10*v+((c.toNat:Int)-48)) 1099511627776) ⟨by simp only; omega,by simp only; omega,hm,fun cq=> ?_⟩ ⟨rfl,rfl,by simp only[Int.natCast_add]; rfl,rfl,trivial⟩ ⟨rfl,trivial⟩ trivial rfl rfl (by show w.length-(i+1)<w.length-i; omega)
  obtain⟨y6,aB⟩:=aB cq
  have hp:(10:Int)^i≤100000:=by
   have:(10:Int)^i≤10^5:=by exact_mod_cast Nat.pow_le_pow_right (by decide) (show i≤5 by omega)
   simpa using this
  have bG:(10:Int)^(i+1)=10*10^i:=by rw[Int.pow_succ,Int.mul_comm]
  have Fa:min (10*v+((c.toNat:Int)-48)) 1099511627776=10*v+((c.toNat:Int)-48):=by omega
  simp only
  rw[Fa]
  exact⟨by rw[bG]; omega,aB⟩
 have bE:i=w.length:=by omega
 subst bE
 rw[List.drop_length]at aB
 simp only[pk]at aB
 clear ai qu Y0
 unfold zl at an
 have EC: ∀c y,r=c::y→ki r=true→Pure Tryz.prog 140 [.int .u8 (c.toNat:Int)] (.bool true):=fun c y e h=>by
  subst e
  have Ji:=au1 (c.toNat:Int)
  rw[show uu (c.toNat:Int)=true from h]at Ji
  exact Ji
 have th: ∀c y,r=c::y→ki r=false→Pure Tryz.prog 140 [.int .u8 (c.toNat:Int)] (.bool false):=fun c y e h=>by
  subst e
  have Ji:=au1 (c.toNat:Int)
  rw[show uu (c.toNat:Int)=false from h]at Ji
  exact Ji
 have ov: ∀c y,r=c::y→Pure Tryz.prog 141 [.int .u8 (c.toNat:Int)] (.bool false):=fun c y e=>by
  have Jj:=au2 (c.toNat:Int)
  rw[show vc (c.toNat:Int)=false from Y1 c y e]at Jj
  exact Jj
 have ph: ∀c y,r=c::y→s[w.length]? =some c:=fun c y e=>by rw[n0,e,List.getElem?_append_right (Nat.le_refl _),Nat.sub_self]; rfl
 have xH:=hlen
 have Zw:s.length-r.length=w.length:=by omega
 have pi: ∀q,q=q4 s (.ok ⟨2,[],pk w 0,0⟩ r)→q= .di [.agg [.int .i64 2,.str [],.int .i64 (pk w 0),.int .i64 0],.int .i64 (w.length:Int),.int .i64 0]:=fun q e=>by
  rw[e,q4,Zw]; rfl
 cases w8:ki r with
 |true=>
  rw[if_pos w8]at an
  rcases r with _|⟨c,y⟩
  ·simp [ki]at w8
  have af:=ph c y rfl
  have ah:=zi c
  have Jj:=ov c y rfl
  have Ji:=EC c y rfl w8
  simp only[List.length_cons]at hlen
  have d1:(w.length:Int)<(s.length:Int):=by omega
  (have al:=d1;refine bQ ?_;clear al)
  refine D.P (Jj) ?_
  (have al:=d1;refine bQ ?_;clear al)
  refine D.P (Ji) ?_
  refine ao ?_
  first|refine D.R ?_|refine D.E ?_
  rw[an]
  exact⟨_,rfl,.av rfl rfl,trivial,trivial⟩
 |false=>
 rw[if_neg (by rw[w8]; decide)]at an
 by_cases cq:6<w.length
 ·rw[if_pos (.inl cq)]at an
  have d6:(6:Int)<(w.length:Int):=by omega
  clear pi
  rcases r with _|⟨c,y⟩
  ·simp only[List.length_nil]at hlen
   have d1: ¬(w.length:Int)<(s.length:Int):=by omega
   (have al:=d1;have z2:=d6;refine e8 ?_;clear al z2)
   first|refine D.R ?_|refine D.E ?_
   rw[an]
   exact⟨_,rfl,.av rfl rfl,trivial,trivial⟩
  ·have af:=ph c y rfl
   have ah:=zi c
   have Jj:=ov c y rfl
   have Ji:=th c y rfl w8
   simp only[List.length_cons]at hlen
   have d1:(w.length:Int)<(s.length:Int):=by omega
   (have al:=d1;refine bQ ?_;clear al)
   refine D.P (Jj) ?_
   (have al:=d1;refine bQ ?_;clear al)
   refine D.P (Ji) ?_
   clear af
   (have al:=d6;refine bQ ?_;clear al)
   first|refine D.R ?_|refine D.E ?_
   rw[an]
   exact⟨_,rfl,.av rfl rfl,trivial,trivial⟩
 have d6: ¬(6:Int)<(w.length:Int):=by omega
 replace aB:=aB (by omega)
 by_cases aw:1<w.length∧w.head?=some 48
 ·rw[if_pos (.inr aw)]at an
  have d2:(1:Int)<(w.length:Int):=by omega
  have r0:s[0]? =some 48:=by rw[n0,List.getElem?_append_left (by omega),←List.head?_eq_getElem?]; exact aw.2
  have wN:((48:UInt8).toNat:Int)=48:=rfl
  clear pi
  rcases r with _|⟨c,y⟩
  ·simp only[List.length_nil]at hlen
   have d1: ¬(w.length:Int)<(s.length:Int):=by omega
   (have al:=d1;have z2:=d6;have z3:=d2;refine ji ?_;clear al z2 z3)
   (have al:=wN;refine bQ ?_;clear al)
   first|refine D.R ?_|refine D.E ?_
   rw[an]
   exact⟨_,rfl,.av rfl rfl,trivial,trivial⟩
  ·have af:=ph c y rfl
   have ah:=zi c
   have Jj:=ov c y rfl
   have Ji:=th c y rfl w8
   simp only[List.length_cons]at hlen
   have d1:(w.length:Int)<(s.length:Int):=by omega
   (have al:=d1;refine bQ ?_;clear al)
   refine D.P (Jj) ?_
   (have al:=d1;refine bQ ?_;clear al)
   refine D.P (Ji) ?_
   clear af
   (have al:=d6;have z2:=d2;have z3:=wN;refine ji ?_;clear al z2 z3)
   first|refine D.R ?_|refine D.E ?_
   rw[an]
   exact⟨_,rfl,.av rfl rfl,trivial,trivial⟩
 rw[if_neg (fun bh=>bh.elim cq aw)]at an
 by_cases aa:1<w.length
 ·have d2:(1:Int)<(w.length:Int):=by omega
  obtain⟨mT,yT⟩: ∃mT,w[0]? =some mT:=⟨_,List.getElem?_eq_getElem (by omega)⟩
  have r0:s[0]? =some mT:=by rw[n0,List.getElem?_append_left (by omega)]; exact yT
  have d3: ¬(mT.toNat:Int)=48:=fun e=>aw ⟨aa,by
   rw[List.head?_eq_getElem?,yT]
   congr 1
   apply UInt8.toNat_inj.1
   have:(48:UInt8).toNat=48:=rfl
   omega⟩
  rcases r with _|⟨c,y⟩
  ·simp only[List.length_nil]at hlen
   have d1: ¬(w.length:Int)<(s.length:Int):=by omega
   (have al:=d1;have z2:=d6;have z3:=d2;refine ji ?_;clear al z2 z3)
   (have al:=d3;refine bQ ?_;clear al)
   first|refine D.R ?_|refine D.E ?_
   rw[an]
   exact⟨_,rfl,.av (by rw[pi _ rfl,←aB.2]; rfl) (r6 _ _),trivial,trivial⟩
  ·have af:=ph c y rfl
   have ah:=zi c
   have Jj:=ov c y rfl
   have Ji:=th c y rfl w8
   simp only[List.length_cons]at hlen
   have d1:(w.length:Int)<(s.length:Int):=by omega
   (have al:=d1;refine bQ ?_;clear al)
   refine D.P (Jj) ?_
   (have al:=d1;refine bQ ?_;clear al)
   refine D.P (Ji) ?_
   clear af
   (have al:=d6;have z2:=d2;have z3:=d3;refine ji ?_;clear al z2 z3)
   first|refine D.R ?_|refine D.E ?_
   rw[an]
   exact⟨_,rfl,.av (by rw[pi _ rfl,←aB.2]; rfl) (r6 _ _),trivial,trivial⟩
 ·have d2: ¬(1:Int)<(w.length:Int):=by omega
  rcases r with _|⟨c,y⟩
  ·simp only[List.length_nil]at hlen
   have d1: ¬(w.length:Int)<(s.length:Int):=by omega
   (have al:=d1;have z2:=d6;have z3:=d2;refine ji ?_;clear al z2 z3)
   first|refine D.R ?_|refine D.E ?_
   rw[an]
   exact⟨_,rfl,.av (by rw[pi _ rfl,←aB.2]; rfl) (r6 _ _),trivial,trivial⟩
  ·have af:=ph c y rfl
   have ah:=zi c
   have Jj:=ov c y rfl
   have Ji:=th c y rfl w8
   simp only[List.length_cons]at hlen
   have d1:(w.length:Int)<(s.length:Int):=by omega
   (have al:=d1;refine bQ ?_;clear al)
   refine D.P (Jj) ?_
   (have al:=d1;refine bQ ?_;clear al)
   refine D.P (Ji) ?_
   clear af
   (have al:=d6;have z2:=d2;refine e8 ?_;clear al z2)
   first|refine D.R ?_|refine D.E ?_
   rw[an]
   exact⟨_,rfl,.av (by rw[pi _ rfl,←aB.2]; rfl) (r6 _ _),trivial,trivial⟩
end
section
attribute [local go_sem] ba.row
def jE:a7→a7→Option (a7×a7)
 | _,[]=>none
 |b,c::x=>if c.toNat=34 then some (b,x)
  else if c.toNat=92 then match x with
   |[]=>none
   |d::y=>if d.toNat=34∨d.toNat=92 then jE (b++[d]) y else none
  else if c.toNat<32∨126<c.toNat then none else jE (b++[c]) x
theorem uc (b:a7) (c:UInt8) (x:a7):jE b (c::x)=if c.toNat=34 then some (b,x)
  else if c.toNat=92 then (match x with
   |[]=>none
   |d::y=>if d.toNat=34∨d.toNat=92 then jE (b++[d]) y else none)
  else if c.toNat<32∨126<c.toNat then none else jE (b++[c]) x:=by
 cases x with
 |nil=>simp only[jE]
 |cons d y=>rw[jE]
def qP:Option (a7×a7)→uW
 |none=> .err 3
 |some (t,r)=>if 40<t.length then .err 6 else .ok ⟨3,t,0,0⟩ r
theorem uo: ∀(n:Nat) (b x:a7),x.length≤n→jy b x=qP (jE b x)
 |n,b,[],h=>by simp only[jy,jE,qP]
 |0,b,c::x,h=>by simp at h
 |n+1,b,c::x,h=>by
  simp only[List.length_cons]at h
  rw[aJ8,uc]
  by_cases J:c.toNat=34
  ·rw[if_pos J,if_pos J]
   rfl
  rw[if_neg J,if_neg J]
  by_cases aa:c.toNat=92
  ·rw[if_pos aa,if_pos aa]
   cases x with
   |nil=>rfl
   |cons d y=>
    simp only[List.length_cons]at h
    simp only
    by_cases au:d.toNat=34∨d.toNat=92
    ·rw[if_pos au,if_pos au]
     exact uo n _ _ (by omega)
    ·rw[if_neg au,if_neg au]
     rfl
  rw[if_neg aa,if_neg aa]
  by_cases au:c.toNat<32∨126<c.toNat
  ·rw[if_pos au,if_pos au]
   rfl
  ·rw[if_neg au,if_neg au]
   exact uo n _ _ (by omega)
def r9 (s:a7):Option (a7×a7)→I
 |none=> .di [.str [],.int .i64 0]
 |some (t,r)=> .di [.str t,.int .i64 ((s.length-r.length:Nat):Int)]
theorem B8 (s:a7) (R:Option (a7×a7)):(r9 s R).flat=true:=by cases R<;>simp only[r9,I.flat,b3,Bool.and_self]
theorem wv: ∀(n:Nat) (b x:a7) (t r:a7),x.length≤n→jE b x=some (t,r)→r.length<x.length
 |n,b,[],t,r,h,e=>by simp only[jE]at e; cases e
 |0,b,c::x,t,r,h,e=>by simp at h
 |n+1,b,c::x,t,r,h,e=>by
  simp only[List.length_cons]at h
  rw[uc]at e
  split at e
  ·cases e; simp
  split at e
  ·cases x with
   |nil=>cases e
   |cons d y=>
    simp only[List.length_cons]at h
    simp only at e
    split at e
    ·have:=wv n _ _ _ _ (by omega) e
     simp only[List.length_cons]
     omega
    ·cases e
  split at e
  ·cases e
  ·have:=wv n _ _ _ _ (by omega) e
   simp only[List.length_cons]
   omega
theorem FU (x:a7) (ap:x.length≤1000000):Pure Tryz.prog 143 [.str (34::x)] (r9 (34::x) (jE [] x)):=by
 obtain⟨R,an⟩: ∃R,R=jE [] x:=⟨_,rfl⟩
 rw[←an]
 obtain⟨s,iH⟩: ∃s,s=(34:UInt8)::x:=⟨_,rfl⟩
 have pS:s.length=x.length+1:=by rw[iH]; rfl
 have mo:fT s x 1:=⟨by omega,by rw[iH]; rfl⟩
 rw[←iH]
 refine cF bN Tryz.func143 Dg rfl (B8 _ _) ?_
 unfold lb An
 simp(disch:=omega)only[go_sem,simprocAttr]
 refine ao ?_
 refine aj.dd (X:=a7×a7×Nat) ([],x,1) (fun y=>[(0,.str s),(4,.str y.1),(5,.int .i64 (y.2.2:Int))]) (fun _=>[]) (fun _=>[]) (fun y=>fT s y.2.1 y.2.2∧y.1.length≤y.2.2∧R=jE y.1 y.2.1) (fun y=>y.2.1.length) ⟨mo,Nat.zero_le _,an⟩ ⟨rfl,rfl,rfl,trivial⟩ trivial trivial ?_
 rintro⟨b,y,p⟩ ⟨aZ,hb,an⟩
 simp only at aZ hb an ⊢
 have oY:=aZ.1
 cases y with
 |nil=>
  simp only[List.length_nil]at oY
  simp only[jE]at an
  have d1: ¬(p:Int)<(s.length:Int):=by omega
  (have al:=d1;refine bQ ?_;clear al)
  first|refine D.R ?_|refine D.E ?_
  rw[an]
  exact⟨_,rfl,.av rfl rfl,trivial,trivial⟩
 |cons c y=>
 have af:=aZ.get
 have ah:=zi c
 have aO:=aZ.tail
 simp only[List.length_cons]at oY
 have d1:(p:Int)<(s.length:Int):=by omega
 rw[uc]at an
 by_cases sU:c.toNat=34
 ·rw[if_pos sU]at an
  have d2:(c.toNat:Int)=34:=by omega
  (have al:=d1;have z2:=d2;refine e8 ?_;clear al z2)
  first|refine D.R ?_|refine D.E ?_
  rw[an]
  exact⟨_,rfl,.av (by simp only[r9,I.av,jU]; rw[aO.eq]; simp only[Int.natCast_add]; rfl) (B8 _ _),trivial,trivial⟩
 rw[if_neg sU]at an
 have d2: ¬(c.toNat:Int)=34:=by omega
 by_cases Lj:c.toNat=92
 ·rw[if_pos Lj]at an
  have d3:(c.toNat:Int)=92:=by omega
  cases y with
  |nil=>
   simp only[List.length_nil]at oY
   have d4: ¬(p:Int)+1<(s.length:Int):=by omega
   (repeat' first|(apply ae.s rfl;(·simp(disch:=omega)only[go_sem,simprocAttr,d1,d2,d3,d4]<;>with_reducible rfl))|(apply aj.s true true;(·simp(disch:=omega)only[go_sem,simprocAttr,d1,d2,d3,d4]<;>with_reducible rfl))|apply ae.nil|(refine aj.b6 ?_)|(apply ae.eX;(·simp(disch:=omega)only[go_sem,simprocAttr,d1,d2,d3,d4]<;>with_reducible rfl))|(apply ae.eY;(·rfl);(·simp(disch:=omega)only[go_sem,simprocAttr,d1,d2,d3,d4]<;>with_reducible rfl))|(apply ae.gs;(·simp(disch:=omega)only[go_sem,simprocAttr,d1,d2,d3,d4]<;>with_reducible rfl))|((first|apply ae.e3|apply ae.e4|apply ae.e5);(·simp(disch:=omega)only[go_sem,simprocAttr,d1,d2,d3,d4]<;>with_reducible rfl);(·simp(disch:=omega)only[go_sem,simprocAttr,d1,d2,d3,d4]<;>with_reducible rfl);(·assumption);(·omega))|intro h)
   first|refine D.R ?_|refine D.E ?_
   rw[an]
   exact⟨_,rfl,.av rfl rfl,trivial,trivial⟩
  |cons d y=>
   have bw:=zi d
   have rZ:=aO.tail
   simp only[List.length_cons]at oY
   have d4:(p:Int)+1<(s.length:Int):=by omega
   have pS:(s.take (p+1+1)).drop (p+1)=[d]:=fT.io (u:=[d]) aO
   simp only at an
   (have al:=d1;refine bQ ?_;clear al)
   (have al:=d2;have z2:=d3;have z3:=d4;refine ji ?_;clear al z2 z3)
   clear af
   have af:=aO.get
   by_cases au:d.toNat=34
   ·rw[if_pos (.inl au)]at an
    have d5:(d.toNat:Int)=34:=by omega
    (have al:=d5;refine bQ ?_;clear al)
    (apply ae.uM (p+1) (p+1+1);(·simp(disch:=omega)only[go_sem,simprocAttr]<;>with_reducible rfl);(·simp(disch:=omega)only[go_sem,simprocAttr]<;>with_reducible rfl);(·simp(disch:=omega)only[go_sem,simprocAttr]<;>with_reducible rfl);(·omega);(·omega);(·omega);(·(try simp only[List.length_map]);omega))
    rw[pS]
    refine ao ?_
    refine D.bR ?_
    refine ao ?_
    refine aj.dK (b++[d],y,p+1+1) ⟨rZ,by simp only[List.length_append,List.length_cons,List.length_nil]; omega,an⟩ ⟨rfl,rfl,by simp only[Int.natCast_add]; rfl,trivial⟩ trivial trivial rfl rfl (by show y.length<y.length+1+1; omega)
   have d5: ¬(d.toNat:Int)=34:=by omega
   by_cases bn:d.toNat=92
   ·rw[if_pos (.inr bn)]at an
    have d6:(d.toNat:Int)=92:=by omega
    (have al:=d5;have z2:=d6;refine e8 ?_;clear al z2)
    (apply ae.uM (p+1) (p+1+1);(·simp(disch:=omega)only[go_sem,simprocAttr]<;>with_reducible rfl);(·simp(disch:=omega)only[go_sem,simprocAttr]<;>with_reducible rfl);(·simp(disch:=omega)only[go_sem,simprocAttr]<;>with_reducible rfl);(·omega);(·omega);(·omega);(·(try simp only[List.length_map]);omega))
    rw[pS]
    refine ao ?_
    refine D.bR ?_
    refine ao ?_
    refine aj.dK (b++[d],y,p+1+1) ⟨rZ,by simp only[List.length_append,List.length_cons,List.length_nil]; omega,an⟩ ⟨rfl,rfl,by simp only[Int.natCast_add]; rfl,trivial⟩ trivial trivial rfl rfl (by show y.length<y.length+1+1; omega)
   ·rw[if_neg (fun h=>h.elim au bn)]at an
    have d6: ¬(d.toNat:Int)=92:=by omega
    (have al:=d5;have z2:=d6;refine e8 ?_;clear al z2)
    clear af
    have af:=aZ.get
    (have al:=d3;refine bQ ?_;clear al)
    first|refine D.R ?_|refine D.E ?_
    rw[an]
    exact⟨_,rfl,.av rfl rfl,trivial,trivial⟩
 ·rw[if_neg Lj]at an
  have d3: ¬(c.toNat:Int)=92:=by omega
  by_cases w6:c.toNat<32
  ·rw[if_pos (.inl w6)]at an
   have d4:(c.toNat:Int)<32:=by omega
   (have al:=d1;refine bQ ?_;clear al)
   (have al:=d2;have z2:=d3;have z3:=d4;refine ji ?_;clear al z2 z3)
   first|refine D.R ?_|refine D.E ?_
   rw[an]
   exact⟨_,rfl,.av rfl rfl,trivial,trivial⟩
  have d4: ¬(c.toNat:Int)<32:=by omega
  by_cases w5:126<c.toNat
  ·rw[if_pos (.inr w5)]at an
   have d5:(126:Int)<(c.toNat:Int):=by omega
   (have al:=d1;refine bQ ?_;clear al)
   (have al:=d2;have z2:=d3;have z3:=d4;refine ji ?_;clear al z2 z3)
   (have al:=d5;refine bQ ?_;clear al)
   first|refine D.R ?_|refine D.E ?_
   rw[an]
   exact⟨_,rfl,.av rfl rfl,trivial,trivial⟩
  ·rw[if_neg (fun h=>h.elim w6 w5)]at an
   have d5: ¬(126:Int)<(c.toNat:Int):=by omega
   have pS:(s.take (p+1)).drop p=[c]:=fT.io (u:=[c]) aZ
   (have al:=d1;refine bQ ?_;clear al)
   (have al:=d2;have z2:=d3;have z3:=d4;refine ji ?_;clear al z2 z3)
   (have al:=d5;refine bQ ?_;clear al)
   (apply ae.uM (p) (p+1);(·simp(disch:=omega)only[go_sem,simprocAttr]<;>with_reducible rfl);(·simp(disch:=omega)only[go_sem,simprocAttr]<;>with_reducible rfl);(·simp(disch:=omega)only[go_sem,simprocAttr]<;>with_reducible rfl);(·omega);(·omega);(·omega);(·(try simp only[List.length_map]);omega))
   rw[pS]
   refine ao ?_
   refine D.bR ?_
   refine ao ?_
   refine aj.dK (b++[c],y,p+1) ⟨aO,by simp only[List.length_append,List.length_cons,List.length_nil]; omega,an⟩ ⟨rfl,rfl,by simp only[Int.natCast_add]; rfl,trivial⟩ trivial trivial rfl rfl (by show y.length<y.length+1; omega)
end
section
attribute [local go_sem] ba.row
theorem ub (p:UInt8→Bool){c:UInt8}: ∀ {l:a7},c∈l.takeWhile p→p c=true
 |[],h=>by simp at h
 |d::l,h=>by
  rw[List.takeWhile_cons]at h
  split at h
  ·rename_i bw
   rcases List.mem_cons.1 h with rfl|h
   ·exact bw
   ·exact ub p h
  ·simp at h
theorem wX (p:UInt8→Bool){c:UInt8}{y:a7}: ∀ {l:a7},l.dropWhile p=c::y→p c=false
 |[],h=>by simp at h
 |d::l,h=>by
  rw[List.dropWhile_cons]at h
  split at h
  ·exact wX p h
  ·rename_i bw
   cases h
   simpa using bw
theorem FD {c:UInt8}{x:a7}{p:UInt8→Bool}(h:p c=true):1≤((c::x).takeWhile p).length:=by
 rw[List.takeWhile_cons,if_pos h,List.length_cons]
 omega
theorem G2 (s:a7) (ap:s.length≤1000000) (c:UInt8) (x:a7) (iH:s=c::x) (ek:l1 c=true):Pure Tryz.prog 74 [.str s] (q4 s (vJ s)):=by
 have Z1:1≤(s.takeWhile iO).length:=by rw[iH]; exact FD (ag8 ek)
 have r0:s[0]? =some c:=by rw[iH]; rfl
 have n0:=(List.takeWhile_append_dropWhile (p:=iO) (l:=s)).symm
 have Y0: ∀(i:Nat) (e:UInt8),(s.takeWhile iO)[i]? =some e→iO e=true:=fun i e h=>ub iO (List.mem_of_getElem? h)
 have Y1: ∀(e:UInt8) (y:a7),s.dropWhile iO=e::y→iO e=false:=fun e y h=>wX iO h
 obtain⟨R,an⟩: ∃R,R=vJ s:=⟨_,rfl⟩
 rw[←an]
 unfold vJ at an
 generalize s.takeWhile iO=w at*
 generalize s.dropWhile iO=r at*
 have hlen:s.length=w.length+r.length:=by rw[n0,List.length_append]
 have kM:s.take w.length=w:=by rw[n0,List.take_left]
 have Zw:s.length-r.length=w.length:=by omega
 have Jh:=OR (c.toNat:Int)
 rw[show xr (c.toNat:Int)=true from ek]at Jh
 have ov: ∀e y,r=e::y→Pure Tryz.prog 140 [.int .u8 (e.toNat:Int)] (.bool false):=fun e y h=>by
  have Ji:=au1 (e.toNat:Int)
  rw[show uu (e.toNat:Int)=false from Y1 e y h]at Ji
  exact Ji
 have ph: ∀e y,r=e::y→s[w.length]? =some e:=fun e y h=>by rw[n0,h,List.getElem?_append_right (Nat.le_refl _),Nat.sub_self]; rfl
 clear iH ek
 refine cF bN Tryz.func74 na rfl (r6 _ _) ?_
 unfold kj mr
 simp(disch:=omega)only[go_sem,simprocAttr]
 refine ao ?_
 refine D.P (Jh) ?_
 refine ao ?_
 clear r0
 refine aj.dd (X:=Nat) 1 (fun y=>[(0,.str s),(2,.ptr 0 0),(5,.int .i64 (y:Int))]) (fun y=>[(0,63,z4)]) (fun _=>[]) (fun y=>1≤y∧y≤w.length) (fun y=>w.length-y) ⟨Nat.le_refl _,Z1⟩ ⟨rfl,rfl,rfl,trivial⟩ ⟨rfl,trivial⟩ trivial ?_
 rintro i ⟨E6,ai⟩
 try simp only at ai E6 ⊢
 by_cases qu:i<w.length
 ·have qD:w[i]? =some w[i]:=List.getElem?_eq_getElem qu
  have tq:=Y0 i _ qD
  have af:s[i]? =some w[i]:=by rw[n0,List.getElem?_append_left qu]; exact qD
  generalize w[i]=e at*
  have Ji:=au1 (e.toNat:Int)
  rw[show uu (e.toNat:Int)=true from tq]at Ji
  have d1:(i:Int)<(s.length:Int):=by omega
  clear qD
  (have al:=d1;refine bQ ?_;clear al)
  refine D.P (Ji) ?_
  refine ao ?_
  refine aj.dK (i+1) ⟨by omega,by omega⟩ ⟨rfl,rfl,by simp only[Int.natCast_add]; rfl,trivial⟩ ⟨rfl,trivial⟩ trivial rfl rfl (by show w.length-(i+1)<w.length-i; omega)
 have bE:i=w.length:=by omega
 subst bE
 clear ai qu Y0
 by_cases sD:16<w.length
 ·rw[if_pos sD]at an
  have d6:(16:Int)<(w.length:Int):=by omega
  rcases r with _|⟨e,y⟩
  ·simp only[List.length_nil]at hlen
   have d1: ¬(w.length:Int)<(s.length:Int):=by omega
   (have al:=d1;have z2:=d6;refine e8 ?_;clear al z2)
   first|refine D.R ?_|refine D.E ?_
   rw[an]
   exact⟨_,rfl,.av rfl rfl,trivial,trivial⟩
  ·have af:=ph e y rfl
   have ah:=zi e
   have Ji:=ov e y rfl
   simp only[List.length_cons]at hlen
   have d1:(w.length:Int)<(s.length:Int):=by omega
   (have al:=d1;refine bQ ?_;clear al)
   refine D.P (Ji) ?_
   (have al:=d6;refine bQ ?_;clear al)
   first|refine D.R ?_|refine D.E ?_
   rw[an]
   exact⟨_,rfl,.av rfl rfl,trivial,trivial⟩
 ·rw[if_neg sD]at an
  have d6: ¬(16:Int)<(w.length:Int):=by omega
  have pi:q4 s R= .di [.agg [.int .i64 1,.str w,.int .i64 0,.int .i64 0],.int .i64 (w.length:Int),.int .i64 0]:=by rw[an,q4,Zw]; rfl
  rw[pi]
  rcases r with _|⟨e,y⟩
  ·simp only[List.length_nil]at hlen
   have d1: ¬(w.length:Int)<(s.length:Int):=by omega
   (have al:=d1;have z2:=d6;refine e8 ?_;clear al z2)
   (apply ae.aG3 (w.length);(·simp(disch:=omega)only[go_sem,simprocAttr]<;>with_reducible rfl);(·simp(disch:=omega)only[go_sem,simprocAttr]<;>with_reducible rfl);(·omega);(·(try simp only[List.length_map]);omega))
   rw[kM]
   refine ao ?_
   first|refine D.R ?_|refine D.E ?_
   exact⟨_,rfl,.av rfl rfl,trivial,trivial⟩
  ·have af:=ph e y rfl
   have ah:=zi e
   have Ji:=ov e y rfl
   simp only[List.length_cons]at hlen
   have d1:(w.length:Int)<(s.length:Int):=by omega
   (have al:=d1;refine bQ ?_;clear al)
   refine D.P (Ji) ?_
   (have al:=d6;refine bQ ?_;clear al)
   (apply ae.aG3 (w.length);(·simp(disch:=omega)only[go_sem,simprocAttr]<;>with_reducible rfl);(·simp(disch:=omega)only[go_sem,simprocAttr]<;>with_reducible rfl);(·omega);(·(try simp only[List.length_map]);omega))
   rw[kM]
   refine ao ?_
   first|refine D.R ?_|refine D.E ?_
   exact⟨_,rfl,.av rfl rfl,trivial,trivial⟩
theorem Fg (c:UInt8):(qS.map (fun c=>[c])).contains [c]=decide (c∈qS):=by
 rw[Bool.eq_iff_iff]
 simp
theorem Fs (m:a7):gO.contains m=decide (m∈gO):=by
 rw[Bool.eq_iff_iff]
 simp
theorem GS (c:UInt8) (x:a7) (ap:x.length≤900000):Pure Tryz.prog 74 [.str (c::x)] (q4 (c::x) (l9 (c::x))):=by
 obtain⟨s,iH⟩: ∃s,s=c::x:=⟨_,rfl⟩
 have pS:s.length=x.length+1:=by rw[iH]; rfl
 have r0:s[0]? =some c:=by rw[iH]; rfl
 have ah:=zi c
 have Jh:=OR (c.toNat:Int)
 have Jj:=au2 (c.toNat:Int)
 rw[←iH]
 cases ek:l1 c with
 |true=>
  rw[show l9 s=vJ s from by rw[iH,l9,if_pos ek]]
  exact G2 s (by omega) c x iH ek
 |false=>
 rw[show xr (c.toNat:Int)=false from ek]at Jh
 cases Ll:iY c with
 |true=>
  rw[show vc (c.toNat:Int)=true from Ll]at Jj
  have od:=FT s (by omega)
  rw[show l9 s=vL s from by rw[iH,l9,if_neg (by rw[ek]; decide),if_pos Ll]]
  clear iH
  cases bW:vL s with
  |err e=>
   rw[bW]at od
   simp only[q4]at od ⊢
   refine cF bN Tryz.func74 na rfl rfl ?_
   unfold kj mr
   simp(disch:=omega)only[go_sem,simprocAttr]
   refine ao ?_
   refine D.P (Jh) ?_
   refine ao ?_
   refine D.P (Jj) ?_
   refine ao ?_
   refine D.P (od) ?_
   refine ao ?_
   first|refine D.R ?_|refine D.E ?_
   exact⟨_,rfl,.av rfl rfl,trivial,trivial⟩
  |ok t r=>
   rw[bW]at od
   simp only[q4,ba.row]at od ⊢
   refine cF bN Tryz.func74 na rfl rfl ?_
   unfold kj mr
   simp(disch:=omega)only[go_sem,simprocAttr]
   refine ao ?_
   refine D.P (Jh) ?_
   refine ao ?_
   refine D.P (Jj) ?_
   refine ao ?_
   refine D.P (od) ?_
   refine ao ?_
   first|refine D.R ?_|refine D.E ?_
   exact⟨_,rfl,.av rfl rfl,trivial,trivial⟩
 |false=>
 rw[show vc (c.toNat:Int)=false from Ll]at Jj
 by_cases sU:c.toNat=34
 ·have d1:(c.toNat:Int)=34:=by omega
  have Ex:c=34:=UInt8.toNat_inj.1 (by rw[sU]; rfl)
  have lb:=FU x (by omega)
  rw[←Ex,←iH]at lb
  have c4:l9 s=qP (jE [] x):=by rw[iH,l9,if_neg (by rw[ek]; decide),if_neg (by rw[Ll]; decide),if_pos sU,uo _ _ _ (Nat.le_refl _)]
  rw[c4]
  cases p5:jE [] x with
  |none=>
   rw[p5]at lb
   simp only[r9,qP,q4]at lb ⊢
   refine cF bN Tryz.func74 na rfl rfl ?_
   unfold kj mr
   simp(disch:=omega)only[go_sem,simprocAttr]
   refine ao ?_
   refine D.P (Jh) ?_
   refine ao ?_
   refine D.P (Jj) ?_
   (have al:=d1;refine bQ ?_;clear al)
   refine D.P (lb) ?_
   refine ao ?_
   first|refine D.R ?_|refine D.E ?_
   exact⟨_,rfl,.av rfl rfl,trivial,trivial⟩
  |some p=>
   obtain⟨t,r⟩:=p
   have uq:=wv _ _ _ _ _ (Nat.le_refl _) p5
   rw[p5]at lb
   simp only[r9]at lb
   obtain⟨n,a6⟩: ∃n,n=s.length-r.length:=⟨_,rfl⟩
   rw[←a6]at lb
   have d2: ¬(n:Int)=0:=by omega
   by_cases Lf:40<t.length
   ·have d3:(40:Int)<(t.length:Int):=by omega
    simp only[qP,if_pos Lf,q4]
    refine cF bN Tryz.func74 na rfl rfl ?_
    unfold kj mr
    simp(disch:=omega)only[go_sem,simprocAttr]
    refine ao ?_
    refine D.P (Jh) ?_
    refine ao ?_
    refine D.P (Jj) ?_
    (have al:=d1;refine bQ ?_;clear al)
    refine D.P (lb) ?_
    (have al:=d2;have z2:=d3;refine e8 ?_;clear al z2)
    first|refine D.R ?_|refine D.E ?_
    exact⟨_,rfl,.av rfl rfl,trivial,trivial⟩
   ·have d3: ¬(40:Int)<(t.length:Int):=by omega
    simp only[qP,if_neg Lf,q4,ba.row,←a6]
    refine cF bN Tryz.func74 na rfl rfl ?_
    unfold kj mr
    simp(disch:=omega)only[go_sem,simprocAttr]
    refine ao ?_
    refine D.P (Jh) ?_
    refine ao ?_
    refine D.P (Jj) ?_
    (have al:=d1;refine bQ ?_;clear al)
    refine D.P (lb) ?_
    (have al:=d2;have z2:=d3;refine e8 ?_;clear al z2)
    first|refine D.R ?_|refine D.E ?_
    exact⟨_,rfl,.av rfl rfl,trivial,trivial⟩
 have d1: ¬(c.toNat:Int)=34:=by omega
 have ar:=at6 (qS.map (fun c=>[c])) [c] (by decide)
 rw[Fg]at ar
 have rE:s.take 1=[c]:=by rw[iH]; rfl
 have c4:l9 s=ux s:=by rw[iH,l9,if_neg (by rw[ek]; decide),if_neg (by rw[Ll]; decide),if_neg sU]
 rw[c4]
 have rO: ∀h:s.take 2∉gO,ux s=if c∈qS then .ok ⟨4,[c],0,0⟩ x else .err 3:=fun h=>by
  rw[iH]at h ⊢
  rw[ux,if_neg h]
 have xI:s.length-x.length=1:=by omega
 cases x with
 |nil=>
  rw[rO (by rw[iH]; simp [gO])]
  simp only[List.length_nil]at pS
  have d2: ¬(1:Int)<(s.length:Int):=by omega
  by_cases hm:c∈qS
  ·rw[decide_eq_true hm]at ar
   simp only[qS,List.map_cons,List.map_nil,cj]at ar
   rw[if_pos hm]
   simp only[q4,ba.row,xI]
   refine cF bN Tryz.func74 na rfl rfl ?_
   unfold kj mr
   simp(disch:=omega)only[go_sem,simprocAttr]
   refine ao ?_
   refine D.P (Jh) ?_
   refine ao ?_
   refine D.P (Jj) ?_
   (have al:=d1;have z2:=d2;refine e8 ?_;clear al z2)
   (apply ae.aG3 (1);(·simp(disch:=omega)only[go_sem,simprocAttr]<;>with_reducible rfl);(·simp(disch:=omega)only[go_sem,simprocAttr]<;>with_reducible rfl);(·omega);(·(try simp only[List.length_map]);omega))
   rw[rE]
   refine ao ?_
   refine D.P (ar) ?_
   refine ao ?_
   (apply ae.aG3 (1);(·simp(disch:=omega)only[go_sem,simprocAttr]<;>with_reducible rfl);(·simp(disch:=omega)only[go_sem,simprocAttr]<;>with_reducible rfl);(·omega);(·(try simp only[List.length_map]);omega))
   rw[rE]
   refine ao ?_
   first|refine D.R ?_|refine D.E ?_
   exact⟨_,rfl,.av rfl rfl,trivial,trivial⟩
  ·rw[decide_eq_false hm]at ar
   simp only[qS,List.map_cons,List.map_nil,cj]at ar
   rw[if_neg hm]
   simp only[q4]
   refine cF bN Tryz.func74 na rfl rfl ?_
   unfold kj mr
   simp(disch:=omega)only[go_sem,simprocAttr]
   refine ao ?_
   refine D.P (Jh) ?_
   refine ao ?_
   refine D.P (Jj) ?_
   (have al:=d1;have z2:=d2;refine e8 ?_;clear al z2)
   (apply ae.aG3 (1);(·simp(disch:=omega)only[go_sem,simprocAttr]<;>with_reducible rfl);(·simp(disch:=omega)only[go_sem,simprocAttr]<;>with_reducible rfl);(·omega);(·(try simp only[List.length_map]);omega))
   rw[rE]
   refine ao ?_
   refine D.P (ar) ?_
   refine ao ?_
   first|refine D.R ?_|refine D.E ?_
   exact⟨_,rfl,.av rfl rfl,trivial,trivial⟩
 |cons d y=>
  simp only[List.length_cons]at pS
  have d2:(1:Int)<(s.length:Int):=by omega
  have rF:s.take 2=[c,d]:=by rw[iH]; rfl
  have ax:=at6 gO [c,d] (by decide)
  rw[Fs]at ax
  by_cases tY:[c,d]∈gO
  ·rw[decide_eq_true tY]at ax
   simp only[gO,List.map_cons,List.map_nil,cj]at ax
   have an:ux s= .ok ⟨4,[c,d],0,0⟩ y:=by
    have:s.take 2∈gO:=by rw[rF]; exact tY
    rw[iH]at this ⊢
    rw[ux,if_pos this]
    rfl
   have oY:s.length-y.length=2:=by omega
   rw[an]
   simp only[q4,ba.row,oY]
   refine cF bN Tryz.func74 na rfl rfl ?_
   unfold kj mr
   simp(disch:=omega)only[go_sem,simprocAttr]
   refine ao ?_
   refine D.P (Jh) ?_
   refine ao ?_
   refine D.P (Jj) ?_
   (have al:=d1;have z2:=d2;refine e8 ?_;clear al z2)
   (apply ae.aG3 (2);(·simp(disch:=omega)only[go_sem,simprocAttr]<;>with_reducible rfl);(·simp(disch:=omega)only[go_sem,simprocAttr]<;>with_reducible rfl);(·omega);(·(try simp only[List.length_map]);omega))
   rw[rF]
   refine ao ?_
   refine D.P (ax) ?_
   refine ao ?_
   (apply ae.aG3 (2);(·simp(disch:=omega)only[go_sem,simprocAttr]<;>with_reducible rfl);(·simp(disch:=omega)only[go_sem,simprocAttr]<;>with_reducible rfl);(·omega);(·(try simp only[List.length_map]);omega))
   rw[rF]
   refine ao ?_
   first|refine D.R ?_|refine D.E ?_
   exact⟨_,rfl,.av rfl rfl,trivial,trivial⟩
  ·rw[decide_eq_false tY]at ax
   simp only[gO,List.map_cons,List.map_nil,cj]at ax
   rw[rO (by rw[rF]; exact tY)]
   by_cases hm:c∈qS
   ·rw[decide_eq_true hm]at ar
    simp only[qS,List.map_cons,List.map_nil,cj]at ar
    rw[if_pos hm]
    simp only[q4,ba.row,xI]
    refine cF bN Tryz.func74 na rfl rfl ?_
    unfold kj mr
    simp(disch:=omega)only[go_sem,simprocAttr]
    refine ao ?_
    refine D.P (Jh) ?_
    refine ao ?_
    refine D.P (Jj) ?_
    (have al:=d1;have z2:=d2;refine e8 ?_;clear al z2)
    (apply ae.aG3 (2);(·simp(disch:=omega)only[go_sem,simprocAttr]<;>with_reducible rfl);(·simp(disch:=omega)only[go_sem,simprocAttr]<;>with_reducible rfl);(·omega);(·(try simp only[List.length_map]);omega))
    rw[rF]
    refine ao ?_
    refine D.P (ax) ?_
    refine ao ?_
    (apply ae.aG3 (1);(·simp(disch:=omega)only[go_sem,simprocAttr]<;>with_reducible rfl);(·simp(disch:=omega)only[go_sem,simprocAttr]<;>with_reducible rfl);(·omega);(·(try simp only[List.length_map]);omega))
    rw[rE]
    refine ao ?_
    refine D.P (ar) ?_
    refine ao ?_
    (apply ae.aG3 (1);(·simp(disch:=omega)only[go_sem,simprocAttr]<;>with_reducible rfl);(·simp(disch:=omega)only[go_sem,simprocAttr]<;>with_reducible rfl);(·omega);(·(try simp only[List.length_map]);omega))
    rw[rE]
    refine ao ?_
    first|refine D.R ?_|refine D.E ?_
    exact⟨_,rfl,.av rfl rfl,trivial,trivial⟩
   ·rw[decide_eq_false hm]at ar
    simp only[qS,List.map_cons,List.map_nil,cj]at ar
    rw[if_neg hm]
    simp only[q4]
    refine cF bN Tryz.func74 na rfl rfl ?_
    unfold kj mr
    simp(disch:=omega)only[go_sem,simprocAttr]
    refine ao ?_
    refine D.P (Jh) ?_
    refine ao ?_
    refine D.P (Jj) ?_
    (have al:=d1;have z2:=d2;refine e8 ?_;clear al z2)
    (apply ae.aG3 (2);(·simp(disch:=omega)only[go_sem,simprocAttr]<;>with_reducible rfl);(·simp(disch:=omega)only[go_sem,simprocAttr]<;>with_reducible rfl);(·omega);(·(try simp only[List.length_map]);omega))
    rw[rF]
    refine ao ?_
    refine D.P (ax) ?_
    refine ao ?_
    (apply ae.aG3 (1);(·simp(disch:=omega)only[go_sem,simprocAttr]<;>with_reducible rfl);(·simp(disch:=omega)only[go_sem,simprocAttr]<;>with_reducible rfl);(·omega);(·(try simp only[List.length_map]);omega))
    rw[rE]
    refine ao ?_
    refine D.P (ar) ?_
    refine ao ?_
    first|refine D.R ?_|refine D.E ?_
    exact⟨_,rfl,.av rfl rfl,trivial,trivial⟩
end
section
attribute [local go_sem] ba.row
theorem CT {c:UInt8}(h:lS c=true):c.toNat=32∨c.toNat=9∨c.toNat=10∨c.toNat=13:=by
 simp only[lS,Bool.or_eq_true,beq_iff_eq]at h
 rcases h with h|h|h|h<;>(subst h; decide)
theorem CR {c:UInt8}(h:lS c=false): ¬c.toNat=32∧¬c.toNat=9∧¬c.toNat=10∧¬c.toNat=13:=by
 have key: ∀n:Fin 256,lS (UInt8.ofNat n.val)=false→¬n.val=32∧¬n.val=9∧¬n.val=10∧¬n.val=13:=by decide+kernel
 have:=key ⟨c.toNat,c.toNat_lt⟩
 simp only[UInt8.ofNat_toNat]at this
 exact this h
theorem HG (n:Nat):ko n []=[]:=by cases n<;>rfl
theorem Af (s x:a7) (a:Nat) (ap:s.length≤1000000) (ab:fT s x a):Pure Tryz.prog 73 [.str s,.int .i64 (a:Int)] (.int .i64 ((s.length-(ko (x.length+1) x).length:Nat):Int)):=by
 obtain⟨R,an⟩: ∃R,R=ko (x.length+1) x:=⟨_,rfl⟩
 rw[←an]
 refine cF bN Tryz.func73 DK rfl rfl ?_
 unfold oh AR
 simp(disch:=omega)only[go_sem,simprocAttr]
 refine ao ?_
 refine aj.dd (X:=a7×Nat×Nat) (x,a,x.length+1) (fun y=>[(0,.str s),(1,.int .i64 (y.2.1:Int))]) (fun _=>[]) (fun _=>[]) (fun y=>fT s y.1 y.2.1∧y.1.length<y.2.2∧R=ko y.2.2 y.1) (fun y=>y.1.length) ⟨ab,by simp,an⟩ ⟨rfl,rfl,trivial⟩ trivial trivial ?_
 rintro⟨y,p,n⟩ ⟨aZ,a6,an⟩
 simp only at aZ a6 an ⊢
 clear ab
 have oY:=aZ.1
 rcases n with _|n
 ·omega
 cases y with
 |nil=>
  simp only[List.length_nil]at oY
  simp only[ko]at an
  have d1: ¬(p:Int)<(s.length:Int):=by omega
  (have al:=d1;refine bQ ?_;clear al)
  first|refine D.R ?_|refine D.E ?_
  rw[an]
  exact⟨_,rfl,.av (by rw[List.length_nil,show s.length-0=p by omega]; rfl) rfl,trivial,trivial⟩
 |cons c y=>
 have af:=aZ.get
 have ah:=zi c
 have aO:=aZ.tail
 simp only[List.length_cons]at oY a6
 simp only[ko]at an
 have d1:(p:Int)<(s.length:Int):=by omega
 cases hb:lS c with
 |true=>
  rw[if_pos hb]at an
  rcases CT hb with h|h|h|h
  ·have d0:(c.toNat:Int)=32:=by omega
   (have al:=d1;refine bQ ?_;clear al)
   (have al:=d0;refine bQ ?_;clear al)
   refine aj.dK (y,p+1,n) ⟨aO,by simp only; omega,an⟩ ⟨rfl,by simp only[Int.natCast_add]; rfl,trivial⟩ trivial trivial rfl rfl (by show y.length<y.length+1; omega)
  ·have d0:(c.toNat:Int)=9:=by omega
   have cD: ¬(c.toNat:Int)=32:=by omega
   (have al:=d1;refine bQ ?_;clear al)
   (have al:=cD;have z2:=d0;refine e8 ?_;clear al z2)
   refine aj.dK (y,p+1,n) ⟨aO,by simp only; omega,an⟩ ⟨rfl,by simp only[Int.natCast_add]; rfl,trivial⟩ trivial trivial rfl rfl (by show y.length<y.length+1; omega)
  ·have d0:(c.toNat:Int)=10:=by omega
   have cD: ¬(c.toNat:Int)=32:=by omega
   have li: ¬(c.toNat:Int)=9:=by omega
   (have al:=d1;refine bQ ?_;clear al)
   (have al:=cD;have z2:=li;have z3:=d0;refine ji ?_;clear al z2 z3)
   refine aj.dK (y,p+1,n) ⟨aO,by simp only; omega,an⟩ ⟨rfl,by simp only[Int.natCast_add]; rfl,trivial⟩ trivial trivial rfl rfl (by show y.length<y.length+1; omega)
  ·have d0:(c.toNat:Int)=13:=by omega
   have cD: ¬(c.toNat:Int)=32:=by omega
   have li: ¬(c.toNat:Int)=9:=by omega
   have mA: ¬(c.toNat:Int)=10:=by omega
   (have al:=d1;refine bQ ?_;clear al)
   (have al:=cD;have z2:=li;have z3:=mA;refine ji ?_;clear al z2 z3)
   (have al:=d0;refine bQ ?_;clear al)
   refine aj.dK (y,p+1,n) ⟨aO,by simp only; omega,an⟩ ⟨rfl,by simp only[Int.natCast_add]; rfl,trivial⟩ trivial trivial rfl rfl (by show y.length<y.length+1; omega)
 |false=>
 rw[if_neg (by rw[hb]; decide)]at an
 obtain⟨hi,eB,dU,jj⟩:=CR hb
 have cD: ¬(c.toNat:Int)=32:=by omega
 have li: ¬(c.toNat:Int)=9:=by omega
 have mA: ¬(c.toNat:Int)=10:=by omega
 have MV: ¬(c.toNat:Int)=13:=by omega
 by_cases DX:c.toNat=47
 rotate_left
 ·have n4: ¬(c.toNat:Int)=47:=by omega
  rw[if_neg (by
   intro e
   have bE:=congrArg List.head? e
   simp only[List.take_succ_cons,List.head?_cons,Option.some.injEq]at bE
   exact DX (by rw[bE]; rfl))]at an
  (have al:=d1;refine bQ ?_;clear al)
  (have al:=cD;have z2:=li;have z3:=mA;refine ji ?_;clear al z2 z3)
  (have al:=MV;have z2:=n4;refine e8 ?_;clear al z2)
  first|refine D.R ?_|refine D.E ?_
  rw[an]
  exact⟨_,rfl,.av (by rw[aZ.eq]; rfl) rfl,trivial,trivial⟩
 have d4:(c.toNat:Int)=47:=by omega
 have vW:c=47:=UInt8.toNat_inj.1 (by rw[DX]; rfl)
 cases y with
 |nil=>
  simp only[List.length_nil]at oY
  rw[if_neg (by simp)]at an
  have d5: ¬(p:Int)+1<(s.length:Int):=by omega
  (have al:=d1;refine bQ ?_;clear al)
  (have al:=cD;have z2:=li;have z3:=mA;refine ji ?_;clear al z2 z3)
  (have al:=MV;have z2:=d4;have z3:=d5;refine ji ?_;clear al z2 z3)
  first|refine D.R ?_|refine D.E ?_
  rw[an]
  exact⟨_,rfl,.av (by rw[aZ.eq]; rfl) rfl,trivial,trivial⟩
 |cons d y=>
 have bw:=zi d
 simp only[List.length_cons]at oY a6
 have d5:(p:Int)+1<(s.length:Int):=by omega
 by_cases ad9:d.toNat=47
 rotate_left
 ·have Fy: ¬(d.toNat:Int)=47:=by omega
  rw[if_neg (by
   intro e
   simp only[List.take_succ_cons,List.take_zero,List.cons.injEq,and_true]at e
   exact ad9 (by rw[e.2]; rfl))]at an
  (have al:=d1;refine bQ ?_;clear al)
  (have al:=cD;have z2:=li;have z3:=mA;refine ji ?_;clear al z2 z3)
  (have al:=MV;have z2:=d4;have z3:=d5;refine ji ?_;clear al z2 z3)
  clear af
  have af:=aO.get
  (have al:=Fy;refine bQ ?_;clear al)
  first|refine D.R ?_|refine D.E ?_
  rw[an]
  exact⟨_,rfl,.av (by rw[aZ.eq]; rfl) rfl,trivial,trivial⟩
 have d6:(d.toNat:Int)=47:=by omega
 have vY:d=47:=UInt8.toNat_inj.1 (by rw[ad9]; rfl)
 rw[if_pos (by rw[vW,vY]; rfl)]at an
 have xH:vG (c::d::y)=(y.dropWhile (·!=10)).tail:=by
  rw[vW,vY]
  rfl
 rw[xH]at an
 (have al:=d1;refine bQ ?_;clear al)
 (have al:=cD;have z2:=li;have z3:=mA;refine ji ?_;clear al z2 z3)
 (have al:=MV;have z2:=d4;have z3:=d5;refine ji ?_;clear al z2 z3)
 clear af
 have af:=aO.get
 (have al:=d6;refine bQ ?_;clear al)
 clear af
 have EE:=vg (·!=10) y
 refine aj.dd (X:=a7×Nat) (c::d::y,p) (fun z=>[(0,.str s),(1,.int .i64 (z.2:Int))]) (fun _=>[]) (fun _=>[]) (fun z=>fT s z.1 z.2∧z.1.dropWhile (·!=10)=y.dropWhile (·!=10)) (fun z=>z.1.length) ⟨aZ,by rw[vW,vY]; rfl⟩ ⟨rfl,rfl,trivial⟩ trivial trivial ?_
 rintro⟨z,q⟩ ⟨aB,hw⟩
 try simp only at aB hw ⊢
 have yy:=aB.1
 cases z with
 |nil=>
  simp only[List.length_nil]at yy
  rw[←hw]at an
  have d7: ¬(q:Int)<(s.length:Int):=by omega
  (have al:=d7;refine bQ ?_;clear al)
  refine aj.dK ([],q,n) ⟨aB,by simp only[List.length_nil]; omega,by rw[an]; simp [HG]⟩ ⟨rfl,rfl,trivial⟩ trivial trivial rfl rfl (by show 0<y.length+1+1; omega)
 |cons e z=>
 have af:=aB.get
 have he:=zi e
 have Fe:=aB.tail
 simp only[List.length_cons]at yy
 have d7:(q:Int)<(s.length:Int):=by omega
 by_cases rM:e=10
 ·have d8:(e.toNat:Int)=10:=by rw[rM]; rfl
  have Z2:y.dropWhile (·!=10)=e::z:=by
   rw[←hw,List.dropWhile_cons,if_neg (by rw[rM]; decide)]
  rw[Z2,List.tail_cons]at an
  rw[Z2,List.length_cons]at EE
  (have al:=d7;have z2:=d8;refine e8 ?_;clear al z2)
  refine aj.dK (e::z,q,n+1) ⟨aB,by simp only[List.length_cons]; omega,by rw[an,ko,if_pos (by rw[rM]; rfl)]⟩ ⟨rfl,rfl,trivial⟩ trivial trivial rfl rfl (by show z.length+1<y.length+1+1; omega)
 ·have d8: ¬(e.toNat:Int)=10:=fun h=>rM (UInt8.toNat_inj.1 (by show e.toNat=10; omega))
  rw[List.dropWhile_cons,if_pos (by simpa using rM)]at hw
  (have al:=d7;have z2:=d8;refine e8 ?_;clear al z2)
  refine aj.dK (z,q+1) ⟨Fe,hw⟩ ⟨rfl,by simp only[Int.natCast_add]; rfl,trivial⟩ trivial trivial rfl rfl (by show z.length<z.length+1; omega)
end
section
attribute [local go_sem] ba.row oC
theorem Gf (s:a7) (ap:s.length≤900000):Pure Tryz.prog 26 [.str s] (BH (pV s)):=by
 obtain⟨R,an⟩: ∃R,R=pV s:=⟨_,rfl⟩
 rw[←an]
 refine cF bN Tryz.func26 Dy rfl (by cases R<;>simp only[BH,I.flat,b3,oC,fP,Bool.and_self]) ?_
 unfold nm AE
 unfold pV at an
 simp(disch:=omega)only[go_sem,simprocAttr]
 by_cases j7:8000<s.length
 ·rw[if_pos j7]at an
  have d1:(8000:Int)<(s.length:Int):=by omega
  (have al:=d1;refine bQ ?_;clear al)
  first|refine D.R ?_|refine D.E ?_
  rw[an]
  exact⟨_,rfl,.di (.cons .nil (.cons (.av rfl rfl) (.cons (.av rfl rfl) .nil))),trivial,trivial⟩
 rw[if_neg j7,uw]at an
 have d1: ¬(8000:Int)<(s.length:Int):=by omega
 have oh:=Af s s 0 (by omega) (fT.refl s)
 obtain⟨aL3,Mc⟩:=Cp (s.length+1) s
 obtain⟨BU,L2,EB,_⟩:=(fT.refl s).of Mc
 generalize ko (s.length+1) s=wo at*
 rw[L2]at oh
 clear L2 Mc
 (have al:=d1;refine pu ?_;clear al)
 refine D.P (oh) ?_
 refine yc ?_
 refine aj.rL 5 4 63 rfl (by decide) ?_
 simp(disch:=omega)only[go_sem,simprocAttr]
 refine D.cN true true ?_
 have oo:wo.length≤s.length:=by have:=EB.1; omega
 clear oh d1
 refine aj.dd (X:=List ba×a7×Nat×Nat) ([],wo,BU,s.length) (fun x=>[(0,.str s),(5,.own 0 4 (x.1.map ba.row)),(6,.int .i64 (x.2.2.1:Int))]) (fun _=>[]) (fun x=>[(0,.bJ 63 4 (x.1.map ba.row).length)]) (fun x=>fT s x.2.1 x.2.2.1∧x.1.length≤x.2.2.1∧x.2.1.length≤x.2.2.2∧R=lexB s.length x.2.2.2 x.1 x.2.1) (fun x=>x.2.1.length) ⟨EB,Nat.zero_le _,oo,an⟩ ⟨rfl,rfl,rfl,trivial⟩ trivial ⟨rfl,trivial⟩ ?_
 rintro⟨acc,y,p,n⟩ ⟨aZ,hb,a6,an⟩
 simp only at aZ hb a6 an ⊢
 clear EB oo
 have oY:=aZ.1
 cases y with
 |nil=>
  simp only[List.length_nil]at oY
  simp only[lexB]at an
  have d1: ¬(p:Int)<(s.length:Int):=by omega
  (have al:=d1;refine bQ ?_;clear al)
  first|refine D.R ?_|refine D.E ?_
  rw[an]
  exact⟨_,rfl,.di (.cons (.av rfl (by simp only[I.flat,oC])) (.cons (.av rfl rfl) (.cons (.av rfl rfl) .nil))),trivial,trivial⟩
 |cons c y=>
 have xe:=aZ.2
 simp only[List.length_cons]at oY
 have d1:(p:Int)<(s.length:Int):=by omega
 simp only[lexB]at an
 rw[aZ.eq]at an
 have kj:=GS c y (by omega)
 obtain⟨T,c4⟩: ∃T,T=l9 (c::y):=⟨_,rfl⟩
 have ZW: ∀t r,T= .ok t r→∃d u,c::y=(d::u)++r:=fun t r h=>Sb (c4▸h)
 have Y8: ∀wR,T= .err wR→wR≠0:=fun wR h=>Sa (c4▸h)
 rw[←c4]at an kj
 clear c4
 (have al:=d1;refine bQ ?_;clear al)
 (apply ae.RU (p);(·simp(disch:=omega)only[go_sem,simprocAttr]<;>with_reducible rfl);(·simp(disch:=omega)only[go_sem,simprocAttr]<;>with_reducible rfl);(·omega);(·(try simp only[List.length_map]);omega))
 rw[xe]
 refine ao ?_
 cases T with
 |err wR=>
  simp only at an
  have d2: ¬wR=0:=Y8 wR rfl
  simp only[q4]at kj
  refine D.P (kj) ?_
  (have al:=d2;refine bQ ?_;clear al)
  first|refine D.R ?_|refine D.E ?_
  rw[an]
  exact⟨_,rfl,.di (.cons .nil (.cons (.av rfl rfl) (.cons (.av rfl rfl) .nil))),trivial,trivial⟩
 |ok t r=>
  simp only at an
  obtain⟨d,u,hu⟩:=ZW t r rfl
  obtain⟨fR,pR,L5,yZ⟩:=aZ.of hu
  have oh:=Af s r fR (by omega) L5
  obtain⟨x5,Bx⟩:=Cp (r.length+1) r
  obtain⟨il,rW,ZM,oX⟩:=L5.of Bx
  have uq:r.length<(c::y).length:=by rw[hu]; simp only[List.length_append,List.length_cons]; omega
  rcases n with _|n
  ·simp at a6
  rw[uw]at an
  have Me:(ko (r.length+1) r).length≤r.length:=by have:=congrArg List.length Bx; rw[List.length_append]at this; omega
  generalize ko (r.length+1) r=po at*
  rw[rW]at oh
  obtain⟨t1,t2,t3,t4⟩:=t
  simp only[q4,ba.row]at kj
  obtain⟨k,aC⟩: ∃k,k=(c::y).length-r.length:=⟨_,rfl⟩
  rw[←aC]at kj
  have Je:p+k=fR:=by
   have:=congrArg List.length hu
   simp only[List.length_append]at this
   have J:=L5.1
   simp only[List.length_cons]at aC this
   omega
  have hw:IntKind.i64.wrap ((p:Int)+(k:Int))=(fR:Int):=by rw[wrap64 (by omega) (by omega)]; omega
  refine D.P (kj) ?_
  refine ao ?_
  refine D.gL ?_
  (have al:=hw;refine bQ ?_;clear al)
  refine D.P (oh) ?_
  refine ao ?_
  simp only[List.length_cons]at a6 uq yZ
  refine aj.gT (acc++[⟨t1,t2,t3,(p:Int)⟩],po,il,n) ⟨ZM,by simp only[List.length_append,List.length_cons,List.length_nil]; omega,by simp only; omega,an⟩ ⟨rfl,by simp only[List.map_append,List.map_cons,List.map_nil,ba.row]; rfl,rfl,trivial⟩ trivial ⟨by simp only[List.map_append,List.map_cons,List.map_nil,List.length_append]; rfl,trivial⟩ rfl (by simp only[fY,dr,dP,dV,fO,I.cR,b2.bJ,oC,go_sem]<;>rfl) (by show po.length<y.length+1; omega)
def p1 (t:ba):a7:=if t.kind=2 then Lib.itoa t.val else if t.kind=3 then p4 t.text else t.text
theorem GH (t:ba) (aw: -1000000000≤t.val) (J:t.val≤1000000000) (aO:t.text.length≤100000000):Pure Tryz.prog 27 [.agg t.row] (.str (p1 t)):=by
 obtain⟨k,x,v,f⟩:=t
 have DE:=zw v aw J
 have Kp:=O9 x aO
 simp only[p1,ba.row]
 refine cF bN Tryz.func27 DA rfl rfl ?_
 unfold q0 AJ
 simp(disch:=omega)only[go_sem,simprocAttr]
 by_cases d1:k=2
 ·rw[if_pos d1]
  (have al:=d1;refine bQ ?_;clear al)
  refine D.P (DE) ?_
  refine ao ?_
  first|refine D.R ?_|refine D.E ?_
  exact⟨_,rfl,.av rfl rfl,trivial,trivial⟩
 rw[if_neg d1]
 by_cases d2:k=3
 ·rw[if_pos d2]
  (have al:=d1;have z2:=d2;refine e8 ?_;clear al z2)
  refine D.P (Kp) ?_
  refine ao ?_
  first|refine D.R ?_|refine D.E ?_
  exact⟨_,rfl,.av rfl rfl,trivial,trivial⟩
 ·rw[if_neg d2]
  (have al:=d1;have z2:=d2;refine e8 ?_;clear al z2)
  first|refine D.R ?_|refine D.E ?_
  exact⟨_,rfl,.av rfl rfl,trivial,trivial⟩
end
end Go.bc.T.N
namespace Go.bc
open Go Go.bc.T.N
def om (t:ba):Prop:=(∃s,t.c=dH s∧mx s=true)∨(∃n:Nat,t.c=kr (n:Int)∧n<1000000)∨(∃s,t.c=p6 s∧lM s=true)∨(∃s,t.c=cy s∧(s∈gO∨∃c∈qS,s=[c]))
theorem B9: ∀(w:a7) (v:Nat),(∀c∈w,iY c=true)→∃n:Nat,pk w (v:Int)=(n:Int)∧n<(v+1)*10^w.length
 |[],v,_=>⟨v,rfl,by simp⟩
 |c::w,v,h=>by
  have bw:48≤(c.toNat:Int)∧(c.toNat:Int)≤57:=by
   have:=h c List.mem_cons_self
   simpa [iY,vc] using this
  obtain⟨n,J,aa⟩:=B9 w (10*v+(c.toNat-48)) (fun d bw=>h d (List.mem_cons_of_mem _ bw))
  refine⟨n,?_,?_⟩
  ·rw[←J]
   simp only[pk]
   congr 1
   omega
  ·refine Nat.lt_of_lt_of_le aa ?_
   rw[List.length_cons,Nat.pow_succ]
   have:10*v+(c.toNat-48)+1≤(v+1)*10:=by omega
   calc (10*v+(c.toNat-48)+1)*10^w.length≤((v+1)*10)*10^w.length:=Nat.mul_le_mul_right _ this
    _=(v+1)*(10^w.length*10):=by rw[Nat.mul_assoc,Nat.mul_comm 10]
theorem wD: ∀(n:Nat) (b x t r:a7),x.length≤n→b.all eo=true→jE b x=some (t,r)→t.all eo=true
 |n,b,[],t,r,h,hb,e=>by simp only[jE]at e; cases e
 |0,b,c::x,t,r,h,hb,e=>by simp at h
 |n+1,b,c::x,t,r,h,hb,e=>by
  simp only[List.length_cons]at h
  rw[uc]at e
  split at e
  ·cases e; exact hb
  split at e
  ·cases x with
   |nil=>cases e
   |cons d y=>
    simp only[List.length_cons]at h
    simp only at e
    split at e
    ·rename_i bw
     refine wD n _ _ _ _ (by omega) ?_ e
     rw[List.all_append,hb]
     simp only[List.all_cons,List.all_nil,Bool.and_true,Bool.true_and,eo]
     rcases bw with bw|bw<;>simp [bw]
    ·cases e
  split at e
  ·cases e
  ·rename_i ah
   refine wD n _ _ _ _ (by omega) ?_ e
   rw[List.all_append,hb]
   simp only[List.all_cons,List.all_nil,Bool.and_true,Bool.true_and,eo]
   simp only[Bool.and_eq_true,decide_eq_true_eq]
   omega
theorem Ik {c:UInt8}{y:a7}{t:ba}{r:a7}(h:l9 (c::y)= .ok t r):om t:=by
 simp only[l9]at h
 split at h
 ·rename_i aH
  unfold vJ at h
  split at h
  ·cases h
  ·rename_i sD
   cases h
   refine .inl ⟨(c::y).takeWhile iO,rfl,?_⟩
   rw[List.takeWhile_cons,if_pos (ag8 aH)]at sD ⊢
   simp only[mx,Bool.and_eq_true,decide_eq_true_eq]
   refine⟨by omega,aH,List.all_eq_true.2 fun d bw=> ?_⟩
   rcases List.mem_cons.1 bw with rfl|bw
   ·exact ag8 aH
   ·exact ub iO bw
 split at h
 ·unfold vL zl at h
  split at h
  ·cases h
  split at h
  ·cases h
  ·rename_i cq
   cases h
   obtain⟨n,ar,ax⟩:=B9 ((c::y).takeWhile iY) 0 (fun d bw=>ub iY bw)
   refine .inr (.inl ⟨n,by show ba.mk 2 [] (pk _ 0) 0= _; rw[show (0:Int)=((0:Nat):Int) from rfl,ar]; rfl,?_⟩)
   have j0:((c::y).takeWhile iY).length≤6:=by
    refine Nat.le_of_not_lt fun h=>cq (.inl h)
   have:10^((c::y).takeWhile iY).length≤10^6:=Nat.pow_le_pow_right (by decide) j0
   omega
 split at h
 ·rw[uo _ _ _ (Nat.le_refl _)]at h
  cases p5:jE [] y with
  |none=>rw[p5]at h; cases h
  |some p=>
   obtain⟨b,dn⟩:=p
   rw[p5]at h
   simp only[qP]at h
   split at h
   ·cases h
   ·rename_i Lf
    cases h
    refine .inr (.inr (.inl ⟨b,rfl,?_⟩))
    simp only[lM,Bool.and_eq_true,decide_eq_true_eq]
    exact⟨by omega,wD _ _ _ _ _ (Nat.le_refl _) rfl p5⟩
 ·unfold ux at h
  split at h
  ·rename_i hm
   cases h
   exact .inr (.inr (.inr ⟨_,rfl,.inl hm⟩))
  ·simp only at h
   split at h
   ·rename_i hm
    cases h
    exact .inr (.inr (.inr ⟨_,rfl,.inr ⟨c,hm,rfl⟩⟩))
   ·cases h
theorem z7 (N:Nat): ∀(n:Nat) (acc:List ba) (x:a7) (l:List ba),(∀t∈acc,om t)→qQ N n acc x= .ok l→∀t∈l,om t
 |0,acc,x,l,aP,h=>by simp only[qQ]at h; cases h; exact aP
 |n+1,acc,x,l,aP,h=>by
  rw[uw]at h
  cases aZ:ko (x.length+1) x with
  |nil=>rw[aZ]at h; simp only[lexB]at h; cases h; exact aP
  |cons c y=>
   rw[aZ]at h
   simp only[lexB]at h
   cases c4:l9 (c::y) with
   |err e=>rw[c4]at h; cases h
   |ok t r=>
    rw[c4]at h
    refine z7 N n _ _ _ ?_ h
    intro u hu
    rcases List.mem_append.1 hu with hu|hu
    ·exact aP u hu
    ·simp only[List.mem_singleton]at hu
     subst hu
     have bL:=Ik c4
     exact bL
theorem zy {s:a7}{l:List ba}(h:pV s= .ok l): ∀t∈l,om t:=by
 unfold pV at h
 split at h
 ·cases h
 ·exact z7 _ _ _ _ _ (fun t aO=>by cases aO) h
def sC (r:a7):Prop:=∀c y,r=c::y→lS c=true
theorem wS {r:a7}(h:sC r):ki r=false:=by
 cases r with
 |nil=>rfl
 |cons c y=>
  have:=h c y rfl
  simp only[lS,Bool.or_eq_true,beq_iff_eq]at this
  rcases this with rfl|rfl|rfl|rfl<;>rfl
theorem Cg (t:ba):p1 t=p1 t.c:=rfl
theorem aT.tok {t:ba}(aO:om t){r q:a7}{us:bH}(ag:sC r) (h:aT r q us):aT (p1 t++r) q (t.c::us):=by
 rw[Cg]
 rcases aO with ⟨s,e,ap⟩|⟨n,e,a6⟩|⟨s,e,ap⟩|⟨s,e,ap⟩
 ·rw[e]; exact aT.name ap (wS ag) h
 ·rw[e]; exact aT.int (Int.natCast_nonneg n) (by omega) (wS ag) h
 ·rw[e]; exact aT.text ap h
 ·rw[e]
  rcases ap with ap|⟨c,ah,rfl⟩
  ·have: ∃a b,s=[a,b]:=by
    simp only[gO,List.mem_cons,List.not_mem_nil,or_false]at ap
    rcases ap with rfl|rfl|rfl|rfl|rfl|rfl|rfl|rfl<;>exact⟨_,_,rfl⟩
   obtain⟨a,b,rfl⟩:=this
   exact aT.m2 ap h
  ·have hb: ∀d,lS d=true→[c,d]∉gO∧[c,d]≠[47,47]:=by
    intro d bw
    simp only[lS,Bool.or_eq_true,beq_iff_eq]at bw
    simp only[qS,List.mem_cons,List.not_mem_nil,or_false]at ah
    rcases bw with rfl|rfl|rfl|rfl<;>rcases ah with rfl|rfl|rfl|rfl|rfl|rfl|rfl|rfl|rfl|rfl|rfl|rfl|rfl|rfl|rfl|rfl|rfl<;>decide
   have yN:[c]∉gO∧([c]:a7)≠[47,47]:=by
    simp [gO]
   refine aT.m1 ah ?_ ?_ h
   ·cases r with
    |nil=>exact yN.1
    |cons d y=>exact (hb d (ag d y rfl)).1
   ·cases r with
    |nil=>exact yN.2
    |cons d y=>exact (hb d (ag d y rfl)).2
theorem wk: ∀(n m:Nat) (x:a7),x.length<n→x.length<m→ko n x=ko m x
 |0,m,x,h,_=>by omega
 |n+1,0,x,_,h=>by omega
 |n+1,m+1,[],_,_=>rfl
 |n+1,m+1,c::x,J,aa=>by
  simp only[List.length_cons]at J aa
  simp only[ko]
  have aH:(vG (c::x)).length≤x.length:=by
   unfold vG
   have:=vg (·!=10) (c::x)
   rw[List.length_tail]
   simp only[List.length_cons]at this
   omega
  rw[wk n m x (by omega) (by omega),wk n m (vG (c::x)) (by omega) (by omega)]
theorem aT.DL {u:a7}(hu:10∉u){r q:a7}{us:bH}(h:aT r q us):aT (47::47::(u++10::r)) q us:=by
 have aH:vG (47::47::(u++10::r))=r:=by
  unfold vG
  have: ∀v:a7,10∉v→(v++10::r).dropWhile (·!=10)=10::r:=by
   intro v
   induction v with
   |nil=>intro _; simp
   |cons d v cv=>
    intro af
    simp only[List.mem_cons,not_or]at af
    rw[List.cons_append,List.dropWhile_cons,if_pos (by simpa using fun e:d=10=>af.1 e.symm)]
    exact cv af.2
  have:=this (47::47::u) (by simp only[List.mem_cons,not_or]; exact⟨by decide,by decide,hu⟩)
  simp only[List.cons_append]at this
  rw[this]
  rfl
 have aw:aT (47::47::(u++10::r)) r []:=by
  intro N n acc a6
  obtain⟨n,rfl⟩: ∃k,n=k+1:=⟨n-1,by omega⟩
  refine⟨[],n+1,rfl,by simp only[List.length_cons,List.length_append]at a6; omega,?_⟩
  rw[List.append_nil,uw,uw]
  congr 1
  rw[ko,if_neg (by decide),if_pos (by rfl),aH]
  refine wk _ _ _ ?_ (by omega)
  simp only[List.length_cons,List.length_append]
  omega
 exact aw.trans h
def hS:List a7:=[[32],[10],[9],[32,47,47,32,111,110,32,120,32,41,32,125,10],[13,10]]
theorem aT.D1 {g:a7}(aY:g∈hS){r q:a7}{us:bH}(h:aT r q us):aT (g++r) q us:=by
 simp only[hS,List.mem_cons,List.not_mem_nil,or_false]at aY
 rcases aY with rfl|rfl|rfl|rfl|rfl
 ·exact aT.ft h
 ·exact aT.kQ h
 ·exact aT.cW rfl h
 ·exact aT.ft (aT.DL (u:=[32,111,110,32,120,32,41,32,125]) (by decide) h)
 ·exact aT.cW rfl (aT.kQ h)
theorem D2 {g:a7}(aY:g∈hS) (r:a7):sC (g++r):=by
 intro c y e
 simp only[hS,List.mem_cons,List.not_mem_nil,or_false]at aY
 rcases aY with rfl|rfl|rfl|rfl|rfl<;>(cases e; rfl)
def la (g:Nat→a7):Nat→List ba→a7
 | _,[]=>[]
 |i,t::l=>g i++p1 t++la g (i+1) l
theorem Ft {g:Nat→a7}(aY: ∀i,g i∈hS) (i:Nat) (l:List ba):sC (la g i l++[10]):=by
 cases l with
 |nil=>intro c y e; cases e; rfl
 |cons t l=>
  simp only[la,List.append_assoc]
  exact D2 (aY i) _
theorem zd {g:Nat→a7}(aY: ∀i,g i∈hS): ∀(l:List ba) (i:Nat),(∀t∈l,om t)→aT (la g i l++[10]) [] (l.map ba.c)
 |[],i,_=>aT.kQ (aT.refl [])
 |t::l,i,h=>by
  simp only[la,List.append_assoc,List.map_cons]
  exact aT.D1 (aY i) (aT.tok (h t List.mem_cons_self) (Ft aY (i+1) l) (zd aY l (i+1) fun u hu=>h u (List.mem_cons_of_mem _ hu)))
theorem FK {s bM:a7}{l b8:List ba}(J:pV s= .ok l) (aa:pV bM= .ok b8) (ah:b8.map ba.c=l.map ba.c):(tb bM).1=(tb s).1∧(tb bM).2.2=(tb s).2.2:=by
 have hlen:b8.length=l.length:=by have:=congrArg List.length ah; simpa using this
 unfold tb
 rw[J,aa]
 simp only[BX]
 rw[hlen]
 have fN:=ao7 (s.length:Int) 0 (3*l.length+2) l
 have a2:=ao7 (bM.length:Int) 0 (3*l.length+2) b8
 rw[ah]at a2
 generalize lo 0 (3*l.length+2) (l.map ba.c)=Z at fN a2
 generalize lo (s.length:Int) (3*l.length+2) l=X at fN ⊢
 generalize lo (bM.length:Int) (3*l.length+2) b8=Y at a2 ⊢
 match Z,X,Y,fN,a2 with
 | .ok a r,.ok b bO,.ok d b4,⟨h,_⟩,⟨ij,_⟩=>
  subst h; subst ij
  exact⟨rfl,rfl⟩
 | .err p e,.err fR ar,.err il ax,h,ij=>
  simp only[rf]at h ij
  subst h; subst ij
  exact⟨rfl,rfl⟩
 | .out,.out,.out,_,_=>exact⟨rfl,rfl⟩
theorem C9 {s:a7}{l:List ba}{g:Nat→a7}(aY: ∀i,g i∈hS) (h:pV s= .ok l) (aH:(la g 0 l).length<8000):(tb (la g 0 l++[10])).1=(tb s).1∧(tb (la g 0 l++[10])).2.2=(tb s).2.2:=by
 obtain⟨b8,ar,ax⟩:=aT.fin (zd aY l 0 (zy h)) (by simp only[List.length_append,List.length_cons,List.length_nil]; omega)
 exact FK h ar ax
theorem CG {t:ba}(h:om t):(p1 t).length≤100:=by
 rw[Cg]
 rcases h with ⟨s,e,ap⟩|⟨n,e,a6⟩|⟨s,e,ap⟩|⟨s,e,ap⟩
 ·rw[e]
  have:s.length≤16:=by
   cases s with
   |nil=>simp
   |cons c s=>simp only[mx,Bool.and_eq_true,decide_eq_true_eq]at ap; exact ap.1
  show s.length≤100
  omega
 ·rw[e]
  have:=vB (n:=(n:Int)) (by omega) (by omega)
  show (Lib.itoa (n:Int)).length≤100
  omega
 ·rw[e]
  have J:=Ph s
  have aa:=AS ap
  show (p4 s).length≤100
  omega
 ·rw[e]
  show s.length≤100
  rcases ap with ap|⟨c,ah,rfl⟩
  ·simp only[gO,List.mem_cons,List.not_mem_nil,or_false]at ap
   rcases ap with rfl|rfl|rfl|rfl|rfl|rfl|rfl|rfl<;>decide
  ·simp
theorem w3 {g:a7}(h:g∈hS):g.length≤13:=by
 simp only[hS,List.mem_cons,List.not_mem_nil,or_false]at h
 rcases h with rfl|rfl|rfl|rfl|rfl<;>decide
end Go.bc
namespace Go.bc.T.N
open Go Go.bc Go.Proofs Go.RowKit
set_option maxRecDepth 100000
attribute [local irreducible] Go.bc.aj Go.bc.ae Go.bc.bz
section
attribute [local go_sem] ad.ct ac.ct ad.b9 ac.b9 cj eN fZ gJ dp of_flat
attribute [local go_sem] cb.row dG fG mV ba.row oC sn aL5
def nE (gs:a7) (i:Nat):a7:=match gs[i%gs.length]? with
 |none=>[32]
 |some c=>hS.getD (c.toNat%5) [32]
theorem w4 (n:Nat):([[I.str [32]],[I.str [10]],[I.str [9]],[I.str [32,47,47,32,111,110,32,120,32,41,32,125,10]],[I.str [13,10]]]:List (List I))[n%5]? =some [.str (hS.getD (n%5) [32])]∧hS.getD (n%5) [32]∈hS:=by
 have cK:n%5<hS.length:=Nat.mod_lt _ (by decide)
 have J:hS[n%5]? =some hS[n%5]:=List.getElem?_eq_getElem cK
 have hm:hS[n%5]∈hS:=List.getElem_mem cK
 have aa:hS.getD (n%5) [32]=hS[n%5]:=by rw[List.getD_eq_getElem?_getD,J]; rfl
 rw[aa]
 refine⟨?_,hm⟩
 show (hS.map cj)[n%5]? = _
 rw[List.getElem?_map,J]
 rfl
theorem vV (gs:a7) (i:Nat):nE gs i∈hS:=by
 unfold nE
 split
 ·decide
 ·exact (w4 _).2
theorem y7 {g:Nat→a7}(aY: ∀i,g i∈hS): ∀(l:List ba) (i:Nat),(∀t∈l,om t)→(la g i l).length≤113*l.length
 |[],i,_=>Nat.le_refl _
 |t::l,i,h=>by
  have J:=y7 aY l (i+1) fun u hu=>h u (List.mem_cons_of_mem _ hu)
  have aa:=w3 (aY i)
  have au:=CG (h t List.mem_cons_self)
  simp only[la,List.length_append,List.length_cons]
  omega
theorem Fz {t:ba}(h:om t): -1000000000≤t.val∧t.val≤1000000000∧t.text.length≤100000000:=by
 rcases h with ⟨s,e,ap⟩|⟨n,e,a6⟩|⟨s,e,ap⟩|⟨s,e,ap⟩
 ·have ar:t.val=0:=congrArg ba.val e
  have ax:t.text=s:=congrArg ba.text e
  have:s.length≤16:=by
   cases s with
   |nil=>simp
   |cons c s=>simp only[mx,Bool.and_eq_true,decide_eq_true_eq]at ap; exact ap.1
  rw[ar,ax]
  omega
 ·have ar:t.val=n:=congrArg ba.val e
  have ax:t.text=[]:=congrArg ba.text e
  rw[ar,ax,List.length_nil]
  omega
 ·have ar:t.val=0:=congrArg ba.val e
  have ax:t.text=s:=congrArg ba.text e
  have:=AS ap
  rw[ar,ax]
  omega
 ·have ar:t.val=0:=congrArg ba.val e
  have ax:t.text=s:=congrArg ba.text e
  have:s.length≤2:=by
   rcases ap with ap|⟨c,ah,rfl⟩
   ·simp only[gO,List.mem_cons,List.not_mem_nil,or_false]at ap
    rcases ap with rfl|rfl|rfl|rfl|rfl|rfl|rfl|rfl<;>decide
   ·simp
  rw[ar,ax]
  omega
theorem GI (ui:Pure Tryz.prog 11 [] (.bool true)) (s gs:a7):Pure Tryz.prog 7 [.str s,.ay 1 (gs.map sn)] (.bool true):=by
 by_cases J:2000<s.length
 ·have d1:(2000:Int)<(s.length:Int):=by omega
  refine cF bN Tryz.func7 qp (by simp only[b3,I.flat,aL5,Bool.and_self]) rfl ?_
  unfold ra Ra
  simp(disch:=omega)only[go_sem,simprocAttr]
  refine ao ?_
  refine D.P (ui) ?_
  (have al:=d1;refine bQ ?_;clear al)
  first|refine D.R ?_|refine D.E ?_
  exact⟨_,rfl,.av rfl rfl,trivial,trivial⟩
 have d1: ¬(2000:Int)<(s.length:Int):=by omega
 by_cases aa:40<gs.length
 ·have d2:(40:Int)<((gs.map sn).length:Int):=by rw[List.length_map]; omega
  refine cF bN Tryz.func7 qp (by simp only[b3,I.flat,aL5,Bool.and_self]) rfl ?_
  unfold ra Ra
  simp(disch:=omega)only[go_sem,simprocAttr]
  refine ao ?_
  refine D.P (ui) ?_
  (have al:=d1;have z2:=d2;refine e8 ?_;clear al z2)
  first|refine D.R ?_|refine D.E ?_
  exact⟨_,rfl,.av rfl rfl,trivial,trivial⟩
 have d2: ¬(40:Int)<((gs.map sn).length:Int):=by rw[List.length_map]; omega
 have nm:=Gf s (by omega)
 have pI:=Fo s (by omega)
 have dX:=ap9 s
 cases uj:pV s with
 |err p e=>
  have he:=ah0 uj
  have bG:tb s=(zH,p,e):=by unfold tb; rw[uj]
  rw[uj]at nm
  rw[bG]at pI
  simp only[BH]at nm
  simp only[xA,Ij]at pI
  refine cF bN Tryz.func7 qp (by simp only[b3,I.flat,aL5,Bool.and_self]) rfl ?_
  unfold ra Ra
  simp(disch:=omega)only[go_sem,simprocAttr]
  refine ao ?_
  refine D.P (ui) ?_
  (have al:=d1;have z2:=d2;refine e8 ?_;clear al z2)
  refine D.P (nm) ?_
  refine ao ?_
  refine D.P (pI) ?_
  (have al:=he;refine bQ ?_;clear al)
  first|refine D.R ?_|refine D.E ?_
  exact⟨_,rfl,.av rfl rfl,trivial,trivial⟩
 |ok l=>
 rw[uj]at nm
 simp only[BH]at nm
 have aP6:=C9 (g:=nE gs) (vV gs) uj
 obtain⟨⟨x,p,f⟩,bG⟩: ∃q,q=tb s:=⟨_,rfl⟩
 rw[←bG]at pI dX aP6
 simp only at dX aP6
 simp only[xA]at pI
 by_cases aW:f=0
 rotate_left
 ·rw[lq]at pI
  refine cF bN Tryz.func7 qp (by simp only[b3,I.flat,aL5,Bool.and_self]) rfl ?_
  unfold ra Ra
  simp(disch:=omega)only[go_sem,simprocAttr]
  refine ao ?_
  refine D.P (ui) ?_
  (have al:=d1;have z2:=d2;refine e8 ?_;clear al z2)
  refine D.P (nm) ?_
  refine ao ?_
  refine D.P (pI) ?_
  (have al:=aW;refine bQ ?_;clear al)
  first|refine D.R ?_|refine D.E ?_
  exact⟨_,rfl,.av rfl rfl,trivial,trivial⟩
 subst aW
 have iy:=zy uj
 have j9:=(MH uj).2
 have oX:l.length≤2001:=by
  unfold pV at uj
  rw[if_neg (by omega)]at uj
  have:=MJ _ _ _ _ _ uj
  simp only[List.length_nil]at this
  omega
 have c4:=y7 (vV gs) l 0 iy
 have AK:=au3 x dX
 have QG:=a00 x x dX
 rw[R4]at QG
 obtain⟨T,xy⟩: ∃T,T=la (nE gs) 0 l:=⟨_,rfl⟩
 rw[←xy]at c4 aP6
 have vi:=Fo (T++[10]) (by simp only[List.length_append,List.length_cons,List.length_nil]; omega)
 obtain⟨⟨y,aR7,ju⟩,ZJ⟩: ∃q,q=tb (T++[10]):=⟨_,rfl⟩
 rw[←ZJ]at vi aP6
 simp only at aP6
 simp only[xA]at vi
 rw[lq]at*
 refine cF bN Tryz.func7 qp (by simp only[b3,I.flat,aL5,Bool.and_self]) rfl ?_
 unfold ra Ra
 simp(disch:=omega)only[go_sem,simprocAttr]
 refine ao ?_
 refine D.P (ui) ?_
 (have al:=d1;have z2:=d2;refine e8 ?_;clear al z2)
 refine D.P (nm) ?_
 refine ao ?_
 refine D.P (pI) ?_
 refine ao ?_
 refine aj.dd (X:=Nat×a7) (0,[]) (fun z=>[(1,.ay 1 (gs.map sn)),(5,.ay 4 (l.map ba.row)),(8,.ptr 0 0),(11,.ay 1 [[.str [32]],[.str [10]],[.str [9]],[.str [32,47,47,32,111,110,32,120,32,41,32,125,10]],[.str [13,10]]]),(12,.str z.2),(13,.int .i64 (z.1:Int))]) (fun _=>[(0,27,x.cells)]) (fun _=>[]) (fun z=>z.1≤l.length∧z.2++la (nE gs) z.1 (l.drop z.1)=T) (fun z=>l.length-z.1) ⟨Nat.zero_le _,xy.symm⟩ ⟨rfl,rfl,rfl,rfl,rfl,rfl,trivial⟩ ⟨rfl,trivial⟩ trivial ?_
 rintro⟨i,acc⟩ ⟨ai,aB⟩
 try simp only at ai aB ⊢
 have Ja:acc.length≤T.length:=by rw[←aB,List.length_append]; omega
 cases af:l[i]? with
 |some t=>
  have cK:=(List.getElem?_eq_some_iff.1 af).1
  have yG:=iy t (List.mem_of_getElem? af)
  obtain⟨bC,bA,cO⟩:=Fz yG
  have q0:=GH t bC bA cO
  have hw:=CG yG
  have hq:=w3 (vV gs i)
  rw[iM af]at aB
  simp only[la]at aB
  have Ff:=congrArg List.length aB
  simp only[List.length_append]at Ff
  have d3:(i:Int)<((l.map ba.row).length:Int):=by rw[List.length_map]; omega
  generalize p1 t=wr at*
  obtain⟨t1,t2,t3,t4⟩:=t
  simp(disch:=omega)only[go_sem,simprocAttr]at q0
  cases sp:gs[i%gs.length]? with
  |none=>
   have E5:gs.length=0:=by
    have:=List.getElem?_eq_none_iff.1 sp
    by_cases aw:gs.length=0
    ·exact aw
    ·have:=Nat.mod_lt i (Nat.pos_of_ne_zero aw)
     omega
   have d4: ¬(0:Int)<((gs.map sn).length:Int):=by rw[List.length_map]; omega
   have LH:nE gs i=[32]:=by unfold nE; rw[sp]
   rw[LH]at aB hq
   (have al:=d3;have z2:=d4;refine e8 ?_;clear al z2)
   refine D.P (q0) ?_
   refine ao ?_
   refine D.bR ?_
   refine ao ?_
   refine D.bR ?_
   refine ao ?_
   refine aj.dK (i+1,acc++([32]++wr)) ⟨by omega,by simp only[List.append_assoc]at aB ⊢; exact aB⟩ ⟨rfl,rfl,rfl,rfl,rfl,by simp only[Int.natCast_add]; rfl,trivial⟩ ⟨rfl,trivial⟩ trivial rfl rfl (by show l.length-(i+1)<l.length-i; omega)
  |some c=>
   have E5:0<gs.length:=by
    have:=(List.getElem?_eq_some_iff.1 sp).1
    omega
   have d4:(0:Int)<((gs.map sn).length:Int):=by rw[List.length_map]; omega
   have LH:nE gs i=hS.getD (c.toNat%5) [32]:=by unfold nE; rw[sp]
   have ab:=(w4 c.toNat).1
   rw[←LH]at ab
   have ah:=zi c
   have em:(i:Int).tmod ((gs.map sn).length:Int)=((i%gs.length:Nat):Int):=by rw[List.length_map]; rfl
   have d5: ¬((gs.map sn).length:Int)=0:=by omega
   have D0:(c.toNat:Int).tmod 5=((c.toNat%5:Nat):Int):=rfl
   generalize nE gs i=Ew at*
   generalize hm:i%gs.length=m at*
   generalize Jd:c.toNat%5=m5 at*
   (have al:=d3;have z2:=d4;refine e8 ?_;clear al z2)
   (have al:=em;have z2:=d5;refine e8 ?_;clear al z2)
   rw[D0]
   refine D.ap6 (ab) ?_
   clear ab sp
   refine ao ?_
   refine D.P (q0) ?_
   refine ao ?_
   refine D.bR ?_
   refine ao ?_
   refine D.bR ?_
   refine ao ?_
   refine aj.dK (i+1,acc++(Ew++wr)) ⟨by omega,by simp only[List.append_assoc]at aB ⊢; exact aB⟩ ⟨rfl,rfl,rfl,rfl,rfl,by simp only[Int.natCast_add]; rfl,trivial⟩ ⟨rfl,trivial⟩ trivial rfl rfl (by show l.length-(i+1)<l.length-i; omega)
 |none=>
  have cM:=List.getElem?_eq_none_iff.1 af
  have bE:i=l.length:=by omega
  subst bE
  rw[List.drop_length]at aB
  simp only[la,List.append_nil]at aB
  subst aB
  have d3: ¬(l.length:Int)<((l.map ba.row).length:Int):=by rw[List.length_map]; omega
  (have al:=d3;refine bQ ?_;clear al)
  refine D.bR ?_
  refine ao ?_
  refine D.P (vi) ?_
  refine bK ?_
  (repeat (apply aj.s true true;(·simp(disch:=omega)only[go_sem,simprocAttr,]<;>with_reducible rfl)))
  by_cases j7:8000≤acc.length
  ·have d8:(8000:Int)≤(acc.length:Int):=by omega
   refine aj.fs (anns:=[.undef,.undef,.undef]) ?_
   (have al:=d8;refine bQ ?_;clear al)
   first|refine D.R ?_|refine D.E ?_
   exact⟨_,rfl,.av rfl rfl,trivial,trivial⟩
  ·have d8: ¬(8000:Int)≤(acc.length:Int):=by omega
   obtain⟨bL,cq⟩:=aP6 (by omega)
   subst bL cq
   refine aj.fs (anns:=[(.agg [.str y.name,.str y.hD,.str y.hA,.ay 7 (y.vars.map cb.row),.ay 4 (y.ap.map cd.row),.ay 4 (y.os.map ca.row)]),(.agg [.str y.name,.str y.hD,.str y.hA,.ay 7 (y.vars.map cb.row),.ay 4 (y.ap.map cd.row),.ay 4 (y.os.map ca.row)]),.bool true]) ?_
   (have al:=d8;refine rj ?_;clear al)
   refine D.df (AK) ?_
   refine bK ?_
   refine D.df (AK) ?_
   refine bK ?_
   refine D.df (QG) ?_
   refine ao ?_
   first|refine D.R ?_|refine D.E ?_
   exact⟨_,rfl,.av rfl rfl,trivial,trivial⟩
end
section
open Go.WideShapes Go.ChangeShapes
section
variable {H:Type}{enc:TypeId×Value→H}{w:World}{base:Nat}{spare:Nat→Bool}{held:Bool}{r:Reach}{hi:Nat}{v:Value}{d:DataW H}{p:List MemPlace}
theorem FH (af:Value.okWide Tryz.prog w r hi 57 v) (h:DataW.Trod enc Tryz.prog w base spare held 57 v d p): ∃q:List UInt8,∀m:Mem,m.w=w→m.H=aA.none→aR m (.ay 1 (q.map sn)) v:=by
 obtain⟨a,len,cap,rfl⟩:=okWide_slice Tryz.underlying57 af
 obtain⟨jY,aW⟩:=h
 obtain⟨rows,au,bn⟩:=HJ (ks:=[.i .u8]) Tryz.underlying57 (by kernel_rfl) (by kernel_rfl) (by decide) aW
 obtain⟨xs,rfl⟩:=l8 (f:=sn) fun r ag=>by
  have:=au r ag
  simp only[cu]at this
  obtain⟨n,_,rfl,hw,rfl⟩:=this
  have J:IntKind.u8.min=0:=by decide
  have aa:IntKind.u8.max=255:=by decide
  simp only[Lit.wf,J,aa,Bool.and_eq_true,decide_eq_true_eq]at hw
  refine⟨UInt8.ofNat n.toNat,?_⟩
  have:(UInt8.ofNat n.toNat).toNat=n.toNat:=by simp; omega
  unfold sn
  rw[this]
  congr 2
  omega
 exact⟨xs,bn⟩
end
theorem Hu (a:ByteArray) (q:List UInt8):Pure Tryz.prog 7 [.str a.data.toList,.ay 1 (q.map sn)] (.bool true):=GI as6 _ q
end
end Go.bc.T.N
