/- Part of a proof; own work. -/
import Derived.Below
import Derived.Lib.OthersKept
import Derived.Deep.LoopGhost
import Derived.Laws.RangeAny
import Derived.Test.YtlemhelnmidpfaaGreatDoorRS8
set_option linter.unusedVariables false
set_option linter.unusedSimpArgs false
open Array renaming length_toList→bg4
open Bool renaming false_eq_true→bd5,true_and→bc7
open List renaming drop_eq_nil_of_le→bc6,length_append→bb7,length_drop→bl7,length_take→be9,length_nil→bc4,length_map→bb5,length_cons→bb9
open Nat renaming le_refl→bc1,reduceBEq→bl3,reduceAdd→bl4,le_of_ble_eq_true→bh6
open Go.Proofs.Tryz renaming prog→bb4
namespace Go.ba.T.N
open Go Go.ba Go.Proofs Go.RowKit
set_option maxRecDepth 100000
attribute [local irreducible] Go.ba.bn Go.ba.aA.cp Go.ba.aA.ck
attribute [local go_sem] bX aJ.aI Env.get qs so tn nO I.cells I.ea gg lh I.one I.iA ha nY j7 cond_true cond_false beq_self_eq_true Bool.not_true Bool.not_false beq_true beq_false eq_self if_true Option.some.injEq bb9 bc4 List.take_succ_cons List.take_zero List.drop_succ_cons List.drop_zero List.set_cons_succ List.set_cons_zero List.nil_append List.cons_append List.append_nil and_self Option.map_some List.map_cons List.map_nil bd5 if_false Nat.zero_add Nat.add_zero true_and and_true Bool.and_true bc7 List.getElem?_cons_zero List.getElem?_cons_succ Nat.zero_le bc1
section
theorem bn.aL8 {P:Program}{d len size:Nat}{l:List bK}{env:Env}{H:aA}{K:Env→aA→Prop}{Rp:I→aA→Prop}{x:aJ}{b:Nat}{T:TypeId}{cs:List I}{rows:List (List I)}(hf:rows.flatten=cs) (ac: ∀r∈rows,r.length=size) (hl:rows.length=len) (h0:0<len) (hm:len≤maxLen) (hx:x.aI env= .ptr b 0) (hb:H.aY b=some (T,cs)) (h:bn P l ((d,.aq size rows)::env) (H.o5 b) K Rp):bn P (⟨some d,none,.xT len size x⟩::l) env H K Rp:=by
 simp only[bn,wanted]
 exact hT.xU hx hb hf ac hl h0 hm h
theorem ao1:(rU.map cf).flatten=rU.map .str:=rfl
theorem af7 {H:aA}{b:Nat}{T1 T2:TypeId}{c1 c2:List I}(hb:H.aY b=none):HSub H (((H.cp b T1 c1).cp b T2 c2).o5 b):=
 ⟨fun x y h=>by
  simp only[aA.cp,aA.o5]
  by_cases e:x=b
  ·subst e; rw[hb]at h; cases h
  ·rw[if_neg e,if_neg e,if_neg e]; exact h,fun _ _ h=>by simpa [aA.cp,aA.o5] using h⟩
theorem po (s:List UInt8):Pure bb4 109 [.str s] (.bool (ev s)):=by
 have h101:=ay7 s
 have h102:=PL rU s (by decide)
 unfold ev
 cases hn:ub s
 all_goals
  rw[hn]at h101
  refine pure_intro be Tryz.func109 U0 fun H=> ?_
  unfold J2 P7
  simp only[lE,initFrom]
  refine cr.seq ?_
  refine fh.go .rg ?_
  refine bn.p (v:= .bool false) rfl ?_
  refine fh.go .xA ?_
  refine cr.seq ?_
  refine fh.go .rg ?_
  refine bn.p (v:= .agg (rU.map .str)) (by kernel_rfl) ?_
  refine fh.go (.AI (by decide)) ?_
  intro b hb
  refine fh.go (.SG (new:=rU.map .str) (o:=0) rfl Ey rfl rfl (by decide) (by decide) rfl rfl) ?_
  refine fh.go .xA ?_
 ·repeat' first|refine fh.g ?_|(intro b hb;repeat first|(refine nt hb ?_;intro _ _ hb)|(refine ns hb ?_;intro hb))|refine rt ?_|refine mN rfl ?_|refine jf rfl ?_|apply mg rfl|apply mf rfl|(apply bn.nv;rfl)|(apply bn.nu;rfl)|intro h
  (apply bn.vX (h101); (·simp only[go_sem,bl3,bl4]<;>rfl); (·exact dZ.refl _))
  repeat' first|refine fh.g ?_|(intro b hb;repeat first|(refine nt hb ?_;intro _ _ hb)|(refine ns hb ?_;intro hb))|refine rt ?_|refine mN rfl ?_|refine jf rfl ?_|apply mg rfl|apply mf rfl|(apply bn.nv;rfl)|(apply bn.nu;rfl)|intro h
  refine mI.g ?_
  exact c5.refl _
 ·repeat' first|refine fh.g ?_|(intro b hb;repeat first|(refine nt hb ?_;intro _ _ hb)|(refine ns hb ?_;intro hb))|refine rt ?_|refine mN rfl ?_|refine jf rfl ?_|apply mg rfl|apply mf rfl|(apply bn.nv;rfl)|(apply bn.nu;rfl)|intro h
  (apply bn.vX (h101); (·simp only[go_sem,bl3,bl4]<;>rfl); (·exact dZ.refl _))
  repeat' first|refine fh.g ?_|(intro b hb;repeat first|(refine nt hb ?_;intro _ _ hb)|(refine ns hb ?_;intro hb))|refine rt ?_|refine mN rfl ?_|refine jf rfl ?_|apply mg rfl|apply mf rfl|(apply bn.nv;rfl)|(apply bn.nu;rfl)|intro h
  (apply bn.aL8 (rows:=rU.map cf) ao1 (by intro r ac; obtain⟨_,_,rfl⟩:=List.mem_map.1 ac; rfl) rfl (by decide) (by decide); (·rfl); (·exact Ey))
  repeat' first|refine fh.g ?_|(intro b hb;repeat first|(refine nt hb ?_;intro _ _ hb)|(refine ns hb ?_;intro hb))|refine rt ?_|refine mN rfl ?_|refine jf rfl ?_|apply mg rfl|apply mf rfl|(apply bn.nv;rfl)|(apply bn.nu;rfl)|intro h
  (apply bn.vX (h102); (·simp only[go_sem,bl3,bl4]<;>rfl); (·exact dZ.refl _))
  repeat' first|refine fh.g ?_|(intro b hb;repeat first|(refine nt hb ?_;intro _ _ hb)|(refine ns hb ?_;intro hb))|refine rt ?_|refine mN rfl ?_|refine jf rfl ?_|apply mg rfl|apply mf rfl|(apply bn.nv;rfl)|(apply bn.nu;rfl)|intro h
  refine cr.forget H (af7 hb) ?_
  refine mI.g ?_
  exact c5.refl _
end
section
theorem I5 {P:Program}{f:FuncId}{args:List I}{r:I}(h:Pure P f args r) (w:World) (aq:List Value) (aS: ∀m,aR m args aq) (hG:l7 w):
  Calls P f ⟨aq⟩ w fun e w'=>(∃v,e= .returned v∧∃m:Mem,aP m r v)∧Below w.heap.size w w':=by
 have:=h aA.none ⟨w,aA.none,fun _=> .nilFunc,0⟩ aq rfl ⟨fun b T cs hb=>by simp [aA.none]at hb,fun t i af=>by simp [aA.none]at af,hG,fun p hp=>⟨rfl,fun t i af=>by simp [aA.none]at af⟩⟩ (aS _)
 refine this.mono fun e w' ⟨o,H',L',T',g1,g2,g3,g4,g5⟩=> ?_
 subst g4
 simp only[rk]at g3
 obtain⟨v,e1,e2⟩:=g3
 exact⟨⟨v,e1,_,e2⟩,⟨g2.os,g2.tape,g2.output,g2.size,fun b hb=>(g2.block b hb rfl (fun t i af=>by simp [aA.none]at af)).1⟩⟩
def bad (n:Nat):Bool:=decide ((n:Int)<32)||decide ((126:Int)<n)
theorem av8 (n:Nat):Pure bb4 294 [.int .i32 (n:Int)] (.bool (bad n)):=by
 refine pure_intro be Tryz.func294 Wo fun H=> ?_
 unfold Lm Rv
 simp only[lE,initFrom]
 repeat' first|refine fh.g ?_|(intro b hb;repeat first|(refine nt hb ?_;intro _ _ hb)|(refine ns hb ?_;intro hb))|refine rt ?_|refine mN rfl ?_|refine jf rfl ?_|apply mg rfl|apply mf rfl|(apply bn.nv;rfl)|(apply bn.nu;rfl)|intro h
 all_goals (refine mI.g ?_)
 all_goals (refine Ir ?_; rw[I.bool.injEq,Bool.eq_iff_iff]; simp [bad]at*; try omega)
def idxFrom (s:ByteArray):Nat→Nat→Int
 |0,_=> -1
 |f+1,pos=>if pos<s.size then (if bad (Utf8.decode s pos).1 then (pos:Int) else idxFrom s f (pos+(Utf8.decode s pos).2)) else-1
theorem NE (s:ByteArray) (f pos:Nat) (h: ¬pos<s.size):idxFrom s f pos= -1:=by cases f<;>simp [idxFrom,h]
theorem TE (s:ByteArray) (pos:Nat) (h:pos<s.size):1≤(Utf8.decode s pos).2:=by
 by_cases aS:(s[pos]'h).toNat<128
 ·rw[decode_ascii s pos h aS]; exact bc1 _
 ·exact (decode_high s pos h (by omega)).2
open Go.Lib in
set_option maxHeartbeats 2000000 in
theorem aX7 (s:ByteArray) (w:World) (hG:l7 w):Calls bb4 385 #[.string s,.func (.func 294) #[] #[],.bool true] w fun e w'=>e= .returned (.int .i64 (idxFrom s s.size 0))∧Below w.heap.size w w':=by
 have hp: ∀(W:World) (r:Nat),l7 W→Calls bb4 294 #[.int .i32 (r:Int)] W fun e w'=>e= .returned (.bool (bad r))∧Below W.heap.size W w':=by
  intro W r hGW
  refine (I5 (hG:=hGW) (av8 r) W [.int .i32 (r:Int)] (fun m=>by simp only[aR,aP]; exact⟨_,_,rfl,rfl,rfl⟩)).mono ?_
  rintro e w' ⟨⟨v,rfl,m,hv⟩,hb⟩
  simp only[aP]at hv
  subst hv
  exact⟨rfl,hb⟩
 go_enter Tryz.func385,Tryz.ntmps385
 go_wp2
 go_loopg [] s.size (fun gf wx=> ∃pos:Nat,wx.heap[w.heap.size]? =some (.stringIter s pos)∧Below w.heap.size w wx∧idxFrom s gf pos=idxFrom s s.size 0∧s.size≤pos+gf)
 case atStart=>exact⟨0,World.iter_heap w s 0,(Below.refl _ w).alloc (bc1 _) _,rfl,by omega⟩
 case round=>
  obtain⟨pos,hit,hbw,hleft,hfu⟩:=hrel
  by_cases hps:pos<s.size
  ·obtain⟨g',rfl⟩: ∃g',gk=g'+1:=⟨gk-1,by omega⟩
   have hnx: ∀ty,(Instr.next (.pointer (some ⟨w.heap.size,0,none⟩)) true ty).run bb4 wr= _:=fun ty=>Lib.run_next_any_at wr w.heap.size s pos ty hit hps
   have hwd:=TE s pos hps
   obtain⟨R,hR⟩: ∃R,(Utf8.decode s pos).1=R:=⟨_,rfl⟩
   obtain⟨K,hK⟩: ∃K,(Utf8.decode s pos).2=K:=⟨_,rfl⟩
   simp only[idxFrom,hps,if_true,hR,hK]at hleft
   rw[hR,hK]at hnx
   rw[hK]at hwd
   have hit2:=Lib.iterAt_heap wr w.heap.size s pos (pos+K) hit
   have hbw2:=Lib.below_iterAt hbw (k:=w.heap.size) (bc1 _) s (pos+K)
   obtain⟨W,hWd⟩: ∃W,wr.iterAt w.heap.size s (pos+K)=W:=⟨_,rfl⟩
   rw[hWd]at hnx hit2 hbw2
   have cS:=hp W R (l7.below hG (bc1 _) hbw2)
   clear hp
   have hlt:w.heap.size<W.heap.size:=(Array.getElem?_eq_some_iff.1 hit2).1
   cases hsp:bad R<;>rw[hsp]at cS<;>simp only[hsp,if_true,bd5,if_false]at hleft
   ·go_wp2_with (refine cS.mono ?_; rintro e W' ⟨rfl,q⟩)
    go_roundg g'
    case measure=>omega
    case rel=>exact⟨pos+K,(q.block _ hlt).trans hit2,hbw2.trans (q.mono (by omega)),hleft,by omega⟩
   ·go_wp2_with (refine cS.mono ?_; rintro e W' ⟨rfl,q⟩)
    go_ret
    exact⟨by rw[←hleft]<;>rfl,hbw2.trans (q.mono (by omega))⟩
  ·have hnx: ∀ty,(Instr.next (.pointer (some ⟨w.heap.size,0,none⟩)) true ty).run bb4 wr= _:=fun ty=>Lib.run_next_end_at wr w.heap.size s pos ty hit hps
   rw[NE s gk pos hps]at hleft
   go_wp2
   go_ret
   exact⟨by rw[←hleft]<;>rfl,hbw⟩
def ea (b:UInt8):Bool:=decide (32≤b.toNat)&&decide (b.toNat≤126)
theorem NF (ca:ByteArray): ∀(f pos:Nat),ca.size≤pos+f→decide (0≤idxFrom ca f pos)= !((ca.data.toList.drop pos).all ea)
 |0,pos,h=>by
  have:ca.data.toList.drop pos=[]:=bc6 (by rw[bg4]; exact (by omega:ca.size≤pos))
  simp [idxFrom,this]
 |f+1,pos,h=>by
  by_cases hp:pos<ca.size
  ·have hd:ca.data.toList.drop pos=ca[pos]::ca.data.toList.drop (pos+1):=by
    rw[List.drop_eq_getElem_cons (by rw[bg4]; exact hp)]
    rfl
   simp only[idxFrom,hp,if_true,hd,List.all_cons]
   by_cases aS:(ca[pos]'hp).toNat<128
   ·rw[decode_ascii ca pos hp aS]
    have ih:=NF ca f (pos+1) (by omega)
    by_cases hb:ea ca[pos]=true
    ·have:bad (ca[pos]).toNat=false:=by simp [ea]at hb; simp [bad]; omega
     simp only[this,hb,bc7,bd5,if_false]
     exact ih
    ·have:bad (ca[pos]).toNat=true:=by simp [ea]at hb; simp [bad]; omega
     have hb':ea ca[pos]=false:=by simpa using hb
     simp [this,hb']
   ·have hh:=(decode_high ca pos hp (by omega)).1
    have:bad (Utf8.decode ca pos).1=true:=by simp [bad]; omega
    have hb':ea ca[pos]=false:=by simp [ea]; omega
    simp [this,hb']
  ·have:ca.data.toList.drop pos=[]:=bc6 (by rw[bg4]; exact (by omega:ca.size≤pos))
   simp [idxFrom,hp,this]
def zk (s:List UInt8):Int:=idxFrom ⟨⟨s⟩⟩ s.length 0
theorem NC (s:List UInt8):decide (0≤zk s)= !(s.all ea):=by
 have:=NF ⟨⟨s⟩⟩ s.length 0 (by show s.length≤0+s.length; omega)
 exact this
theorem aw3 (s:List UInt8):Pure bb4 385 [.str s,.fn 294 [],.bool true] (.int .i64 (zk s)):=by
 refine zN fun m aq hG hv=> ?_
 simp only[aR,aP]at hv
 obtain⟨_,_,rfl,⟨rfl,_⟩,_,_,rfl,⟨l,rfl,rfl⟩,_,_,rfl,rfl,rfl⟩:=hv
 have e:qD 294 []= .func (.func 294) #[] #[]:=vf (by decide) []
 rw[e]
 refine (aX7 ⟨⟨s⟩⟩ m.w hG).mono ?_
 rintro e w' ⟨rfl,hb⟩
 exact⟨_,rfl,fun m'=>by simp only[aP]; rfl,hb⟩
theorem aw1 (s:List UInt8):Pure bb4 354 [.str s,.fn 294 []] (.int .i64 (zk s)):=by
 refine pure_intro be Tryz.func354 IZ fun H=> ?_
 unfold Eh GD
 simp only[lE,initFrom]
 repeat' first|refine fh.g ?_|(intro b hb;repeat first|(refine nt hb ?_;intro _ _ hb)|(refine ns hb ?_;intro hb))|refine rt ?_|refine mN rfl ?_|refine jf rfl ?_|apply mg rfl|apply mf rfl|(apply bn.nv;rfl)|(apply bn.nu;rfl)|intro h
 (apply bn.vX (aw3 _); (·simp only[go_sem,bl3,bl4]<;>rfl); (·exact dZ.refl _))
 repeat' first|refine fh.g ?_|(intro b hb;repeat first|(refine nt hb ?_;intro _ _ hb)|(refine ns hb ?_;intro hb))|refine rt ?_|refine mN rfl ?_|refine jf rfl ?_|apply mg rfl|apply mf rfl|(apply bn.nv;rfl)|(apply bn.nu;rfl)|intro h
 refine mI.g ?_
 exact c5.refl _
theorem av6 (s:List UInt8):Pure bb4 293 [.str s,.fn 294 []] (.bool (!(s.all ea))):=by
 refine pure_intro be Tryz.func293 IX fun H=> ?_
 unfold Ef GB
 simp only[lE,initFrom]
 repeat' first|refine fh.g ?_|(intro b hb;repeat first|(refine nt hb ?_;intro _ _ hb)|(refine ns hb ?_;intro hb))|refine rt ?_|refine mN rfl ?_|refine jf rfl ?_|apply mg rfl|apply mf rfl|(apply bn.nv;rfl)|(apply bn.nu;rfl)|intro h
 (apply bn.vX (aw1 _); (·simp only[go_sem,bl3,bl4]<;>rfl); (·exact dZ.refl _))
 repeat' first|refine fh.g ?_|(intro b hb;repeat first|(refine nt hb ?_;intro _ _ hb)|(refine ns hb ?_;intro hb))|refine rt ?_|refine mN rfl ?_|refine jf rfl ?_|apply mg rfl|apply mf rfl|(apply bn.nv;rfl)|(apply bn.nu;rfl)|intro h
 refine mI.g ?_
 rw[NC]
 exact c5.refl _
theorem aw5 (n:Nat):Pure bb4 320 [.int .i32 (n:Int)] (.bool (bad n)):=by
 refine pure_intro be Tryz.func320 WD fun H=> ?_
 unfold LA RL
 simp only[lE,initFrom]
 repeat' first|refine fh.g ?_|(intro b hb;repeat first|(refine nt hb ?_;intro _ _ hb)|(refine ns hb ?_;intro hb))|refine rt ?_|refine mN rfl ?_|refine jf rfl ?_|apply mg rfl|apply mf rfl|(apply bn.nv;rfl)|(apply bn.nu;rfl)|intro h
 all_goals (refine mI.g ?_)
 all_goals (refine Ir ?_; rw[I.bool.injEq,Bool.eq_iff_iff]; simp [bad]at*; try omega)
open Go.Lib in
set_option maxHeartbeats 2000000 in
theorem aX8 (s:ByteArray) (w:World) (hG:l7 w):Calls bb4 385 #[.string s,.func (.func 320) #[] #[],.bool true] w fun e w'=>e= .returned (.int .i64 (idxFrom s s.size 0))∧Below w.heap.size w w':=by
 have hp: ∀(W:World) (r:Nat),l7 W→Calls bb4 320 #[.int .i32 (r:Int)] W fun e w'=>e= .returned (.bool (bad r))∧Below W.heap.size W w':=by
  intro W r hGW
  refine (I5 (hG:=hGW) (aw5 r) W [.int .i32 (r:Int)] (fun m=>by simp only[aR,aP]; exact⟨_,_,rfl,rfl,rfl⟩)).mono ?_
  rintro e w' ⟨⟨v,rfl,m,hv⟩,hb⟩
  simp only[aP]at hv
  subst hv
  exact⟨rfl,hb⟩
 go_enter Tryz.func385,Tryz.ntmps385
 go_wp2
 go_loopg [] s.size (fun gf wx=> ∃pos:Nat,wx.heap[w.heap.size]? =some (.stringIter s pos)∧Below w.heap.size w wx∧idxFrom s gf pos=idxFrom s s.size 0∧s.size≤pos+gf)
 case atStart=>exact⟨0,World.iter_heap w s 0,(Below.refl _ w).alloc (bc1 _) _,rfl,by omega⟩
 case round=>
  obtain⟨pos,hit,hbw,hleft,hfu⟩:=hrel
  by_cases hps:pos<s.size
  ·obtain⟨g',rfl⟩: ∃g',gk=g'+1:=⟨gk-1,by omega⟩
   have hnx: ∀ty,(Instr.next (.pointer (some ⟨w.heap.size,0,none⟩)) true ty).run bb4 wr= _:=fun ty=>Lib.run_next_any_at wr w.heap.size s pos ty hit hps
   have hwd:=TE s pos hps
   obtain⟨R,hR⟩: ∃R,(Utf8.decode s pos).1=R:=⟨_,rfl⟩
   obtain⟨K,hK⟩: ∃K,(Utf8.decode s pos).2=K:=⟨_,rfl⟩
   simp only[idxFrom,hps,if_true,hR,hK]at hleft
   rw[hR,hK]at hnx
   rw[hK]at hwd
   have hit2:=Lib.iterAt_heap wr w.heap.size s pos (pos+K) hit
   have hbw2:=Lib.below_iterAt hbw (k:=w.heap.size) (bc1 _) s (pos+K)
   obtain⟨W,hWd⟩: ∃W,wr.iterAt w.heap.size s (pos+K)=W:=⟨_,rfl⟩
   rw[hWd]at hnx hit2 hbw2
   have cS:=hp W R (l7.below hG (bc1 _) hbw2)
   clear hp
   have hlt:w.heap.size<W.heap.size:=(Array.getElem?_eq_some_iff.1 hit2).1
   cases hsp:bad R<;>rw[hsp]at cS<;>simp only[hsp,if_true,bd5,if_false]at hleft
   ·go_wp2_with (refine cS.mono ?_; rintro e W' ⟨rfl,q⟩)
    go_roundg g'
    case measure=>omega
    case rel=>exact⟨pos+K,(q.block _ hlt).trans hit2,hbw2.trans (q.mono (by omega)),hleft,by omega⟩
   ·go_wp2_with (refine cS.mono ?_; rintro e W' ⟨rfl,q⟩)
    go_ret
    exact⟨by rw[←hleft]<;>rfl,hbw2.trans (q.mono (by omega))⟩
  ·have hnx: ∀ty,(Instr.next (.pointer (some ⟨w.heap.size,0,none⟩)) true ty).run bb4 wr= _:=fun ty=>Lib.run_next_end_at wr w.heap.size s pos ty hit hps
   rw[NE s gk pos hps]at hleft
   go_wp2
   go_ret
   exact⟨by rw[←hleft]<;>rfl,hbw⟩
theorem aw4 (s:List UInt8):Pure bb4 385 [.str s,.fn 320 [],.bool true] (.int .i64 (zk s)):=by
 refine zN fun m aq hG hv=> ?_
 simp only[aR,aP]at hv
 obtain⟨_,_,rfl,⟨rfl,_⟩,_,_,rfl,⟨l,rfl,rfl⟩,_,_,rfl,rfl,rfl⟩:=hv
 have e:qD 320 []= .func (.func 320) #[] #[]:=vf (by decide) []
 rw[e]
 refine (aX8 ⟨⟨s⟩⟩ m.w hG).mono ?_
 rintro e w' ⟨rfl,hb⟩
 exact⟨_,rfl,fun m'=>by simp only[aP]; rfl,hb⟩
theorem aw2 (s:List UInt8):Pure bb4 354 [.str s,.fn 320 []] (.int .i64 (zk s)):=by
 refine pure_intro be Tryz.func354 IZ fun H=> ?_
 unfold Eh GD
 simp only[lE,initFrom]
 repeat' first|refine fh.g ?_|(intro b hb;repeat first|(refine nt hb ?_;intro _ _ hb)|(refine ns hb ?_;intro hb))|refine rt ?_|refine mN rfl ?_|refine jf rfl ?_|apply mg rfl|apply mf rfl|(apply bn.nv;rfl)|(apply bn.nu;rfl)|intro h
 (apply bn.vX (aw4 _); (·simp only[go_sem,bl3,bl4]<;>rfl); (·exact dZ.refl _))
 repeat' first|refine fh.g ?_|(intro b hb;repeat first|(refine nt hb ?_;intro _ _ hb)|(refine ns hb ?_;intro hb))|refine rt ?_|refine mN rfl ?_|refine jf rfl ?_|apply mg rfl|apply mf rfl|(apply bn.nv;rfl)|(apply bn.nu;rfl)|intro h
 refine mI.g ?_
 exact c5.refl _
theorem av7 (s:List UInt8):Pure bb4 293 [.str s,.fn 320 []] (.bool (!(s.all ea))):=by
 refine pure_intro be Tryz.func293 IX fun H=> ?_
 unfold Ef GB
 simp only[lE,initFrom]
 repeat' first|refine fh.g ?_|(intro b hb;repeat first|(refine nt hb ?_;intro _ _ hb)|(refine ns hb ?_;intro hb))|refine rt ?_|refine mN rfl ?_|refine jf rfl ?_|apply mg rfl|apply mf rfl|(apply bn.nv;rfl)|(apply bn.nu;rfl)|intro h
 (apply bn.vX (aw2 _); (·simp only[go_sem,bl3,bl4]<;>rfl); (·exact dZ.refl _))
 repeat' first|refine fh.g ?_|(intro b hb;repeat first|(refine nt hb ?_;intro _ _ hb)|(refine ns hb ?_;intro hb))|refine rt ?_|refine mN rfl ?_|refine jf rfl ?_|apply mg rfl|apply mf rfl|(apply bn.nv;rfl)|(apply bn.nu;rfl)|intro h
 refine mI.g ?_
 rw[NC]
 exact c5.refl _
end
end Go.ba.T.N
