/- Part of a proof; own work. -/
import Derived.Below
import Derived.Lib.OthersKept
import Derived.Deep.LoopGhost
import Derived.Laws.RangeAny
import Derived.Test.YtlemhelnmidpfaaGreatDoorQS8
set_option linter.unusedVariables false
set_option linter.unusedSimpArgs false
namespace Go.aO.T.N
open Go Go.aO Go.Proofs Go.RowKit
set_option maxRecDepth 100000
attribute [local irreducible] Go.aO.bt Go.aO.aA.cp Go.aO.aA.cj
attribute [local go_sem] ca aJ.aI Env.get r1 ur vX pg I.cells I.fk gj mG I.one I.js h9 po lr cond_true cond_false beq_self_eq_true Bool.not_true Bool.not_false beq_true beq_false eq_self if_true Option.some.injEq List.length_cons List.length_nil List.take_succ_cons List.take_zero List.drop_succ_cons List.drop_zero List.set_cons_succ List.set_cons_zero List.nil_append List.cons_append List.append_nil and_self Option.map_some List.map_cons List.map_nil Bool.false_eq_true if_false Nat.zero_add Nat.add_zero true_and and_true Bool.and_true Bool.true_and List.getElem?_cons_zero List.getElem?_cons_succ Nat.zero_le Nat.le_refl
section
theorem bt.aW1 {P:Program}{d len size:Nat}{l:List bY}{env:Env}{H:aA}{K:Env→aA→Prop}{Rp:I→aA→Prop}{x:aJ}{b:Nat}{T:TypeId}{cs:List I}{rows:List (List I)}(hf:rows.flatten=cs) (ac: ∀r∈rows,r.length=size) (hl:rows.length=len) (h0:0<len) (hm:len≤maxLen) (hx:x.aI env= .ptr b 0) (hb:H.aZ b=some (T,cs)) (h:bt P l ((d,.af size rows)::env) (H.qz b) K Rp):bt P (⟨some d,none,.Af len size x⟩::l) env H K Rp:=by
 simp only[bt,wanted]
 exact iK.Ag hx hb hf ac hl h0 hm h
theorem az0:(yd.map b6).flatten=yd.map .str:=rfl
theorem as4 {H:aA}{b:Nat}{T1 T2:TypeId}{c1 c2:List I}(hb:H.aZ b=none):HSub H (((H.cp b T1 c1).cp b T2 c2).qz b):=
 ⟨fun x y h=>by
  simp only[aA.cp,aA.qz]
  by_cases e:x=b
  ·subst e; rw[hb]at h; cases h
  ·rw[if_neg e,if_neg e,if_neg e]; exact h,fun _ _ h=>by simpa [aA.cp,aA.qz] using h⟩
theorem qS (s:List UInt8):Pure Tryz.prog 109 [.str s] (.bool (io s)):=by
 have h101:=aJ6 s
 have h102:=Sc yd s (by decide)
 unfold io
 cases hn:BO s
 all_goals
  rw[hn]at h101
  refine pure_intro bb Tryz.func109 W0 fun H=> ?_
  unfold Mv Sr
  simp only[mQ,initFrom]
  refine cF.seq ?_
  refine fQ.go .rg ?_
  refine bt.p (v:= .bool false) rfl ?_
  refine fQ.go .zQ ?_
  refine cF.seq ?_
  refine fQ.go .rg ?_
  refine bt.p (v:= .agg (yd.map .str)) (by kernel_rfl) ?_
  refine fQ.go (.Db (by decide)) ?_
  intro b hb
  refine fQ.go (.U1 (new:=yd.map .str) (o:=0) rfl G4 rfl rfl (by decide) (by decide) rfl rfl) ?_
  refine fQ.go .zQ ?_
 ·repeat' first|refine fQ.g ?_|(intro b hb;repeat first|(refine oT hb ?_;intro _ _ hb)|(refine oS hb ?_;intro hb))|refine rt ?_|refine fj rfl ?_|refine je rfl ?_|apply nX rfl|apply nW rfl|(apply bt.oV;rfl)|(apply bt.oU;rfl)|intro h
  (apply bt.yu (h101); (·simp only[go_sem,Nat.reduceBEq,Nat.reduceAdd]<;>rfl); (·exact eo.refl _))
  repeat' first|refine fQ.g ?_|(intro b hb;repeat first|(refine oT hb ?_;intro _ _ hb)|(refine oS hb ?_;intro hb))|refine rt ?_|refine fj rfl ?_|refine je rfl ?_|apply nX rfl|apply nW rfl|(apply bt.oV;rfl)|(apply bt.oU;rfl)|intro h
  refine ol.g ?_
  exact bh.refl _
 ·repeat' first|refine fQ.g ?_|(intro b hb;repeat first|(refine oT hb ?_;intro _ _ hb)|(refine oS hb ?_;intro hb))|refine rt ?_|refine fj rfl ?_|refine je rfl ?_|apply nX rfl|apply nW rfl|(apply bt.oV;rfl)|(apply bt.oU;rfl)|intro h
  (apply bt.yu (h101); (·simp only[go_sem,Nat.reduceBEq,Nat.reduceAdd]<;>rfl); (·exact eo.refl _))
  repeat' first|refine fQ.g ?_|(intro b hb;repeat first|(refine oT hb ?_;intro _ _ hb)|(refine oS hb ?_;intro hb))|refine rt ?_|refine fj rfl ?_|refine je rfl ?_|apply nX rfl|apply nW rfl|(apply bt.oV;rfl)|(apply bt.oU;rfl)|intro h
  (apply bt.aW1 (rows:=yd.map b6) az0 (by intro r ac; obtain⟨_,_,rfl⟩:=List.mem_map.1 ac; rfl) rfl (by decide) (by decide); (·rfl); (·exact G4))
  repeat' first|refine fQ.g ?_|(intro b hb;repeat first|(refine oT hb ?_;intro _ _ hb)|(refine oS hb ?_;intro hb))|refine rt ?_|refine fj rfl ?_|refine je rfl ?_|apply nX rfl|apply nW rfl|(apply bt.oV;rfl)|(apply bt.oU;rfl)|intro h
  (apply bt.yu (h102); (·simp only[go_sem,Nat.reduceBEq,Nat.reduceAdd]<;>rfl); (·exact eo.refl _))
  repeat' first|refine fQ.g ?_|(intro b hb;repeat first|(refine oT hb ?_;intro _ _ hb)|(refine oS hb ?_;intro hb))|refine rt ?_|refine fj rfl ?_|refine je rfl ?_|apply nX rfl|apply nW rfl|(apply bt.oV;rfl)|(apply bt.oU;rfl)|intro h
  refine cF.forget H (as4 hb) ?_
  refine ol.g ?_
  exact bh.refl _
end
section
theorem LF {P:Program}{f:FuncId}{args:List I}{r:I}(h:Pure P f args r) (w:World) (af:List Value) (aL: ∀m,aR m args af) (hG:lR w):
  Calls P f ⟨af⟩ w fun e w'=>(∃v,e= .returned v∧∃m:Mem,aP m r v)∧Below w.heap.size w w':=by
 have:=h aA.none ⟨w,aA.none,fun _=> .nilFunc,0⟩ af rfl ⟨fun b T cs hb=>by simp [aA.none]at hb,fun t i ad=>by simp [aA.none]at ad,hG,fun p hp=>⟨rfl,fun t i ad=>by simp [aA.none]at ad⟩⟩ (aL _)
 refine this.mono fun e w' ⟨o,H',L',T',g1,g2,g3,g4,g5⟩=> ?_
 subst g4
 simp only[ti]at g3
 obtain⟨v,e1,e2⟩:=g3
 exact⟨⟨v,e1,_,e2⟩,⟨g2.os,g2.tape,g2.output,g2.size,fun b hb=>(g2.block b hb rfl (fun t i ad=>by simp [aA.none]at ad)).1⟩⟩
def bad (n:Nat):Bool:=decide ((n:Int)<32)||decide ((126:Int)<n)
theorem aG6 (n:Nat):Pure Tryz.prog 294 [.int .i32 (n:Int)] (.bool (bad n)):=by
 refine pure_intro bb Tryz.func294 Ye fun H=> ?_
 unfold NF TG
 simp only[mQ,initFrom]
 repeat' first|refine fQ.g ?_|(intro b hb;repeat first|(refine oT hb ?_;intro _ _ hb)|(refine oS hb ?_;intro hb))|refine rt ?_|refine fj rfl ?_|refine je rfl ?_|apply nX rfl|apply nW rfl|(apply bt.oV;rfl)|(apply bt.oU;rfl)|intro h
 all_goals (refine ol.g ?_)
 all_goals (refine K0 ?_; rw[I.bool.injEq,Bool.eq_iff_iff]; simp [bad]at*; try omega)
def idxFrom (s:ByteArray):Nat→Nat→Int
 |0,_=> -1
 |f+1,pos=>if pos<s.size then (if bad (Utf8.decode s pos).1 then (pos:Int) else idxFrom s f (pos+(Utf8.decode s pos).2)) else-1
theorem P4 (s:ByteArray) (f pos:Nat) (h: ¬pos<s.size):idxFrom s f pos= -1:=by cases f<;>simp [idxFrom,h]
theorem VQ (s:ByteArray) (pos:Nat) (h:pos<s.size):1≤(Utf8.decode s pos).2:=by
 by_cases aL:(s[pos]'h).toNat<128
 ·rw[decode_ascii s pos h aL]; exact Nat.le_refl _
 ·exact (decode_high s pos h (by omega)).2
open Go.Lib in
set_option maxHeartbeats 2000000 in
theorem bb7 (s:ByteArray) (w:World) (hG:lR w):Calls Tryz.prog 385 #[.string s,.func (.func 294) #[] #[],.bool true] w fun e w'=>e= .returned (.int .i64 (idxFrom s s.size 0))∧Below w.heap.size w w':=by
 have hp: ∀(W:World) (r:Nat),lR W→Calls Tryz.prog 294 #[.int .i32 (r:Int)] W fun e w'=>e= .returned (.bool (bad r))∧Below W.heap.size W w':=by
  intro W r hGW
  refine (LF (hG:=hGW) (aG6 r) W [.int .i32 (r:Int)] (fun m=>by simp only[aR,aP]; exact⟨_,_,rfl,rfl,rfl⟩)).mono ?_
  rintro e w' ⟨⟨v,rfl,m,hv⟩,hb⟩
  simp only[aP]at hv
  subst hv
  exact⟨rfl,hb⟩
 go_enter Tryz.func385,Tryz.ntmps385
 go_wp2
 go_loopg [] s.size (fun gf wx=> ∃pos:Nat,wx.heap[w.heap.size]? =some (.stringIter s pos)∧Below w.heap.size w wx∧idxFrom s gf pos=idxFrom s s.size 0∧s.size≤pos+gf)
 case atStart=>exact⟨0,World.iter_heap w s 0,(Below.refl _ w).alloc (Nat.le_refl _) _,rfl,by omega⟩
 case round=>
  obtain⟨pos,hit,hbw,hleft,hfu⟩:=hrel
  by_cases hps:pos<s.size
  ·obtain⟨g',rfl⟩: ∃g',gk=g'+1:=⟨gk-1,by omega⟩
   have hnx: ∀ty,(Instr.next (.pointer (some ⟨w.heap.size,0,none⟩)) true ty).run Tryz.prog wr= _:=fun ty=>Lib.run_next_any_at wr w.heap.size s pos ty hit hps
   have hwd:=VQ s pos hps
   obtain⟨R,hR⟩: ∃R,(Utf8.decode s pos).1=R:=⟨_,rfl⟩
   obtain⟨K,hK⟩: ∃K,(Utf8.decode s pos).2=K:=⟨_,rfl⟩
   simp only[idxFrom,hps,if_true,hR,hK]at hleft
   rw[hR,hK]at hnx
   rw[hK]at hwd
   have hit2:=Lib.iterAt_heap wr w.heap.size s pos (pos+K) hit
   have hbw2:=Lib.below_iterAt hbw (k:=w.heap.size) (Nat.le_refl _) s (pos+K)
   obtain⟨W,hWd⟩: ∃W,wr.iterAt w.heap.size s (pos+K)=W:=⟨_,rfl⟩
   rw[hWd]at hnx hit2 hbw2
   have cS:=hp W R (lR.below hG (Nat.le_refl _) hbw2)
   clear hp
   have hlt:w.heap.size<W.heap.size:=(Array.getElem?_eq_some_iff.1 hit2).1
   cases hsp:bad R<;>rw[hsp]at cS<;>simp only[hsp,if_true,Bool.false_eq_true,if_false]at hleft
   ·go_wp2_with (refine cS.mono ?_; rintro e W' ⟨rfl,q⟩)
    go_roundg g'
    case measure=>omega
    case rel=>exact⟨pos+K,(q.block _ hlt).trans hit2,hbw2.trans (q.mono (by omega)),hleft,by omega⟩
   ·go_wp2_with (refine cS.mono ?_; rintro e W' ⟨rfl,q⟩)
    go_ret
    exact⟨by rw[←hleft]<;>rfl,hbw2.trans (q.mono (by omega))⟩
  ·have hnx: ∀ty,(Instr.next (.pointer (some ⟨w.heap.size,0,none⟩)) true ty).run Tryz.prog wr= _:=fun ty=>Lib.run_next_end_at wr w.heap.size s pos ty hit hps
   rw[P4 s gk pos hps]at hleft
   go_wp2
   go_ret
   exact⟨by rw[←hleft]<;>rfl,hbw⟩
def fk (b:UInt8):Bool:=decide (32≤b.toNat)&&decide (b.toNat≤126)
theorem P5 (bQ:ByteArray): ∀(f pos:Nat),bQ.size≤pos+f→decide (0≤idxFrom bQ f pos)= !((bQ.data.toList.drop pos).all fk)
 |0,pos,h=>by
  have:bQ.data.toList.drop pos=[]:=List.drop_eq_nil_of_le (by rw[Array.length_toList]; exact (by omega:bQ.size≤pos))
  simp [idxFrom,this]
 |f+1,pos,h=>by
  by_cases hp:pos<bQ.size
  ·have hd:bQ.data.toList.drop pos=bQ[pos]::bQ.data.toList.drop (pos+1):=by
    rw[List.drop_eq_getElem_cons (by rw[Array.length_toList]; exact hp)]
    rfl
   simp only[idxFrom,hp,if_true,hd,List.all_cons]
   by_cases aL:(bQ[pos]'hp).toNat<128
   ·rw[decode_ascii bQ pos hp aL]
    have ih:=P5 bQ f (pos+1) (by omega)
    by_cases hb:fk bQ[pos]=true
    ·have:bad (bQ[pos]).toNat=false:=by simp [fk]at hb; simp [bad]; omega
     simp only[this,hb,Bool.true_and,Bool.false_eq_true,if_false]
     exact ih
    ·have:bad (bQ[pos]).toNat=true:=by simp [fk]at hb; simp [bad]; omega
     have hb':fk bQ[pos]=false:=by simpa using hb
     simp [this,hb']
   ·have hh:=(decode_high bQ pos hp (by omega)).1
    have:bad (Utf8.decode bQ pos).1=true:=by simp [bad]; omega
    have hb':fk bQ[pos]=false:=by simp [fk]; omega
    simp [this,hb']
  ·have:bQ.data.toList.drop pos=[]:=List.drop_eq_nil_of_le (by rw[Array.length_toList]; exact (by omega:bQ.size≤pos))
   simp [idxFrom,hp,this]
def BM (s:List UInt8):Int:=idxFrom ⟨⟨s⟩⟩ s.length 0
theorem P2 (s:List UInt8):decide (0≤BM s)= !(s.all fk):=by
 have:=P5 ⟨⟨s⟩⟩ s.length 0 (by show s.length≤0+s.length; omega)
 exact this
theorem aH1 (s:List UInt8):Pure Tryz.prog 385 [.str s,.fn 294 [],.bool true] (.int .i64 (BM s)):=by
 refine Cr fun m af hG hv=> ?_
 simp only[aR,aP]at hv
 obtain⟨_,_,rfl,⟨rfl,_⟩,_,_,rfl,⟨l,rfl,rfl⟩,_,_,rfl,rfl,rfl⟩:=hv
 have e:sl 294 []= .func (.func 294) #[] #[]:=xL (by decide) []
 rw[e]
 refine (bb7 ⟨⟨s⟩⟩ m.w hG).mono ?_
 rintro e w' ⟨rfl,hb⟩
 exact⟨_,rfl,fun m'=>by simp only[aP]; rfl,hb⟩
theorem aG9 (s:List UInt8):Pure Tryz.prog 354 [.str s,.fn 294 []] (.int .i64 (BM s)):=by
 refine pure_intro bb Tryz.func354 Lx fun H=> ?_
 unfold GI I9
 simp only[mQ,initFrom]
 repeat' first|refine fQ.g ?_|(intro b hb;repeat first|(refine oT hb ?_;intro _ _ hb)|(refine oS hb ?_;intro hb))|refine rt ?_|refine fj rfl ?_|refine je rfl ?_|apply nX rfl|apply nW rfl|(apply bt.oV;rfl)|(apply bt.oU;rfl)|intro h
 (apply bt.yu (aH1 _); (·simp only[go_sem,Nat.reduceBEq,Nat.reduceAdd]<;>rfl); (·exact eo.refl _))
 repeat' first|refine fQ.g ?_|(intro b hb;repeat first|(refine oT hb ?_;intro _ _ hb)|(refine oS hb ?_;intro hb))|refine rt ?_|refine fj rfl ?_|refine je rfl ?_|apply nX rfl|apply nW rfl|(apply bt.oV;rfl)|(apply bt.oU;rfl)|intro h
 refine ol.g ?_
 exact bh.refl _
theorem aG4 (s:List UInt8):Pure Tryz.prog 293 [.str s,.fn 294 []] (.bool (!(s.all fk))):=by
 refine pure_intro bb Tryz.func293 Lv fun H=> ?_
 unfold GG I7
 simp only[mQ,initFrom]
 repeat' first|refine fQ.g ?_|(intro b hb;repeat first|(refine oT hb ?_;intro _ _ hb)|(refine oS hb ?_;intro hb))|refine rt ?_|refine fj rfl ?_|refine je rfl ?_|apply nX rfl|apply nW rfl|(apply bt.oV;rfl)|(apply bt.oU;rfl)|intro h
 (apply bt.yu (aG9 _); (·simp only[go_sem,Nat.reduceBEq,Nat.reduceAdd]<;>rfl); (·exact eo.refl _))
 repeat' first|refine fQ.g ?_|(intro b hb;repeat first|(refine oT hb ?_;intro _ _ hb)|(refine oS hb ?_;intro hb))|refine rt ?_|refine fj rfl ?_|refine je rfl ?_|apply nX rfl|apply nW rfl|(apply bt.oV;rfl)|(apply bt.oU;rfl)|intro h
 refine ol.g ?_
 rw[P2]
 exact bh.refl _
theorem aH3 (n:Nat):Pure Tryz.prog 320 [.int .i32 (n:Int)] (.bool (bad n)):=by
 refine pure_intro bb Tryz.func320 Yt fun H=> ?_
 unfold NT TV
 simp only[mQ,initFrom]
 repeat' first|refine fQ.g ?_|(intro b hb;repeat first|(refine oT hb ?_;intro _ _ hb)|(refine oS hb ?_;intro hb))|refine rt ?_|refine fj rfl ?_|refine je rfl ?_|apply nX rfl|apply nW rfl|(apply bt.oV;rfl)|(apply bt.oU;rfl)|intro h
 all_goals (refine ol.g ?_)
 all_goals (refine K0 ?_; rw[I.bool.injEq,Bool.eq_iff_iff]; simp [bad]at*; try omega)
open Go.Lib in
set_option maxHeartbeats 2000000 in
theorem bb8 (s:ByteArray) (w:World) (hG:lR w):Calls Tryz.prog 385 #[.string s,.func (.func 320) #[] #[],.bool true] w fun e w'=>e= .returned (.int .i64 (idxFrom s s.size 0))∧Below w.heap.size w w':=by
 have hp: ∀(W:World) (r:Nat),lR W→Calls Tryz.prog 320 #[.int .i32 (r:Int)] W fun e w'=>e= .returned (.bool (bad r))∧Below W.heap.size W w':=by
  intro W r hGW
  refine (LF (hG:=hGW) (aH3 r) W [.int .i32 (r:Int)] (fun m=>by simp only[aR,aP]; exact⟨_,_,rfl,rfl,rfl⟩)).mono ?_
  rintro e w' ⟨⟨v,rfl,m,hv⟩,hb⟩
  simp only[aP]at hv
  subst hv
  exact⟨rfl,hb⟩
 go_enter Tryz.func385,Tryz.ntmps385
 go_wp2
 go_loopg [] s.size (fun gf wx=> ∃pos:Nat,wx.heap[w.heap.size]? =some (.stringIter s pos)∧Below w.heap.size w wx∧idxFrom s gf pos=idxFrom s s.size 0∧s.size≤pos+gf)
 case atStart=>exact⟨0,World.iter_heap w s 0,(Below.refl _ w).alloc (Nat.le_refl _) _,rfl,by omega⟩
 case round=>
  obtain⟨pos,hit,hbw,hleft,hfu⟩:=hrel
  by_cases hps:pos<s.size
  ·obtain⟨g',rfl⟩: ∃g',gk=g'+1:=⟨gk-1,by omega⟩
   have hnx: ∀ty,(Instr.next (.pointer (some ⟨w.heap.size,0,none⟩)) true ty).run Tryz.prog wr= _:=fun ty=>Lib.run_next_any_at wr w.heap.size s pos ty hit hps
   have hwd:=VQ s pos hps
   obtain⟨R,hR⟩: ∃R,(Utf8.decode s pos).1=R:=⟨_,rfl⟩
   obtain⟨K,hK⟩: ∃K,(Utf8.decode s pos).2=K:=⟨_,rfl⟩
   simp only[idxFrom,hps,if_true,hR,hK]at hleft
   rw[hR,hK]at hnx
   rw[hK]at hwd
   have hit2:=Lib.iterAt_heap wr w.heap.size s pos (pos+K) hit
   have hbw2:=Lib.below_iterAt hbw (k:=w.heap.size) (Nat.le_refl _) s (pos+K)
   obtain⟨W,hWd⟩: ∃W,wr.iterAt w.heap.size s (pos+K)=W:=⟨_,rfl⟩
   rw[hWd]at hnx hit2 hbw2
   have cS:=hp W R (lR.below hG (Nat.le_refl _) hbw2)
   clear hp
   have hlt:w.heap.size<W.heap.size:=(Array.getElem?_eq_some_iff.1 hit2).1
   cases hsp:bad R<;>rw[hsp]at cS<;>simp only[hsp,if_true,Bool.false_eq_true,if_false]at hleft
   ·go_wp2_with (refine cS.mono ?_; rintro e W' ⟨rfl,q⟩)
    go_roundg g'
    case measure=>omega
    case rel=>exact⟨pos+K,(q.block _ hlt).trans hit2,hbw2.trans (q.mono (by omega)),hleft,by omega⟩
   ·go_wp2_with (refine cS.mono ?_; rintro e W' ⟨rfl,q⟩)
    go_ret
    exact⟨by rw[←hleft]<;>rfl,hbw2.trans (q.mono (by omega))⟩
  ·have hnx: ∀ty,(Instr.next (.pointer (some ⟨w.heap.size,0,none⟩)) true ty).run Tryz.prog wr= _:=fun ty=>Lib.run_next_end_at wr w.heap.size s pos ty hit hps
   rw[P4 s gk pos hps]at hleft
   go_wp2
   go_ret
   exact⟨by rw[←hleft]<;>rfl,hbw⟩
theorem aH2 (s:List UInt8):Pure Tryz.prog 385 [.str s,.fn 320 [],.bool true] (.int .i64 (BM s)):=by
 refine Cr fun m af hG hv=> ?_
 simp only[aR,aP]at hv
 obtain⟨_,_,rfl,⟨rfl,_⟩,_,_,rfl,⟨l,rfl,rfl⟩,_,_,rfl,rfl,rfl⟩:=hv
 have e:sl 320 []= .func (.func 320) #[] #[]:=xL (by decide) []
 rw[e]
 refine (bb8 ⟨⟨s⟩⟩ m.w hG).mono ?_
 rintro e w' ⟨rfl,hb⟩
 exact⟨_,rfl,fun m'=>by simp only[aP]; rfl,hb⟩
theorem aH0 (s:List UInt8):Pure Tryz.prog 354 [.str s,.fn 320 []] (.int .i64 (BM s)):=by
 refine pure_intro bb Tryz.func354 Lx fun H=> ?_
 unfold GI I9
 simp only[mQ,initFrom]
 repeat' first|refine fQ.g ?_|(intro b hb;repeat first|(refine oT hb ?_;intro _ _ hb)|(refine oS hb ?_;intro hb))|refine rt ?_|refine fj rfl ?_|refine je rfl ?_|apply nX rfl|apply nW rfl|(apply bt.oV;rfl)|(apply bt.oU;rfl)|intro h
 (apply bt.yu (aH2 _); (·simp only[go_sem,Nat.reduceBEq,Nat.reduceAdd]<;>rfl); (·exact eo.refl _))
 repeat' first|refine fQ.g ?_|(intro b hb;repeat first|(refine oT hb ?_;intro _ _ hb)|(refine oS hb ?_;intro hb))|refine rt ?_|refine fj rfl ?_|refine je rfl ?_|apply nX rfl|apply nW rfl|(apply bt.oV;rfl)|(apply bt.oU;rfl)|intro h
 refine ol.g ?_
 exact bh.refl _
theorem aG5 (s:List UInt8):Pure Tryz.prog 293 [.str s,.fn 320 []] (.bool (!(s.all fk))):=by
 refine pure_intro bb Tryz.func293 Lv fun H=> ?_
 unfold GG I7
 simp only[mQ,initFrom]
 repeat' first|refine fQ.g ?_|(intro b hb;repeat first|(refine oT hb ?_;intro _ _ hb)|(refine oS hb ?_;intro hb))|refine rt ?_|refine fj rfl ?_|refine je rfl ?_|apply nX rfl|apply nW rfl|(apply bt.oV;rfl)|(apply bt.oU;rfl)|intro h
 (apply bt.yu (aH0 _); (·simp only[go_sem,Nat.reduceBEq,Nat.reduceAdd]<;>rfl); (·exact eo.refl _))
 repeat' first|refine fQ.g ?_|(intro b hb;repeat first|(refine oT hb ?_;intro _ _ hb)|(refine oS hb ?_;intro hb))|refine rt ?_|refine fj rfl ?_|refine je rfl ?_|apply nX rfl|apply nW rfl|(apply bt.oV;rfl)|(apply bt.oU;rfl)|intro h
 refine ol.g ?_
 rw[P2]
 exact bh.refl _
end
end Go.aO.T.N
