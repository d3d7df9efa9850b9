/- Ge cX ahW and Subst; sU rO Subst. -/
import Derived.Test.YthgmimncdjhgnaaGreatDoorXDC
import Derived.Test.YthgmimncdjhgnaaGreatDoorXSB
set_option maxRecDepth 100000
set_option maxHeartbeats 16000000
namespace Go.Proofs.YthgmimncdjhgnaaGreatDoor
open Go.RowKit Go.LF
def qa(O:Nat->Prop)(E:Int)(X:Tm)(w:World)(e:Ending)(w':World):Prop:=
  ∃(k i:Int)(n:List UInt8)(a:Option Addr)(len cap:Nat),e=.returned (.tuple #[.agg #[.int .i64 k,.string (B n),.int .i64 i,.slice a len cap],.int .i64 E])/\aw O w' X.az [.int .i64 k,.string (B n),.int .i64 i,.slice a len cap]/\af ae w w'
theorem IJ{O:Nat->Prop}{W:World}{s:Sm}{c0 c1:Value}{b:Nat}{T:TypeId}(h:aw O W s.az [c0,c1])(hb:¬O b)(hB:bK W b c0 c1 T):ai O W 2 ([s].map Sm.az) (some ⟨b,0,none⟩) 0:=by
  refine bT _ _ _ (fun i hi=>?_);obtain rfl:i=0:=by simpa using hi
  refine⟨b,0,_,rfl,hB.lt,hb,rfl,fun m v hv=>?_,h⟩;match m,hv with
  |0,hv=>cases hv;exact hB.cells.1
  |1,hv=>cases hv;exact hB.cells.2
  |m+2,hv=>simp at hv
theorem eI{w:World}{ops:Array Oper}{rest:List Oper}{o:Oper}{a:Act}{Q:Exit->Act->World->Prop}(ve:o.guard=none)(s x:Operand)
    (ho:o.op=.call { callee:=.builtin .append,args:=#[s,x],argTypes:=#[26,26] }){O:Nat->Prop}{base:Nat}{v:Value}{ts:List Tm}{css:List (List Value)} (hs:a.eval s=v) (hS:gP O base w v ts css)
    (A:Option Addr) (m c:Nat) (us:List Tm) (hx:a.eval x=.slice A m c) (hm:m=us.length) (hE:ai (fun b=>O b\/base<=b) w 4 (us.map Tm.az) A 0) (hl:ts.length+us.length<=900000) (dh:base<=w.heap.size)
    (h:∀ v' w' fY,gP O base w' v' (ts++us) fY->w.grownBy w' v.ownBlock->(v'.ownBlock=v.ownBlock\/v'.ownBlock=some w.heap.size)->wpList Tryz.prog ops Q rest (a.put o.dst v') w'):wpList Tryz.prog ops Q (o :: rest) a w:=by
  refine wpList_plain ve fun _ hK=>?_
  obtain⟨v',w',fY,mg,h1,h2,h3⟩:=vS hS A m c us hm hE hl dh o.type;unfold Oper.wp execOp;simp only[ho,resolve,invoke,builtin,Sem.run_bind,Sem.run_pure,Result.andThen_ok,List.map_toArray,List.map_cons,List.map_nil,hs,hx,mg];exact hK _ _ (h v' w' fY h1 h2 h3)
abbrev Om(Y x:Nat)(y0 y1 y2 y3 x1:Value)(w':World):Prop:=
  (w'.cell? ⟨Y,0,none⟩=some y0/\w'.cell? ⟨Y,1,none⟩=some y1/\w'.cell? ⟨Y,2,none⟩=some y2/\w'.cell? ⟨Y,3,none⟩=some y3)/\w'.cell? ⟨x,1,none⟩=some x1
theorem Om.ag{Y x:Nat}{y0 y1 y2 y3 x1:Value}{w w':World}{S:Nat->Prop}(h:Om Y x y0 y1 y2 y3 x1 w)(hU:af S w w')(h1:¬S Y)(h2:¬S x):Om Y x y0 y1 y2 y3 x1 w':=
  ⟨⟨hU.cell h.1.1 h1,hU.cell h.1.2.1 h1,hU.cell h.1.2.2.1 h1,hU.cell h.1.2.2.2 h1⟩,hU.cell h.2 h2⟩
theorem Om.kT{Y x r:Nat}{y0 y1 y2 y3 x1:Value}{w:World}(h:Om Y x y0 y1 y2 y3 x1 w)(h1:¬Y=r)(h2:¬x=r)(d0 d1 d2 d3:Value):
    Om Y x y0 y1 y2 y3 x1 ((((w.setCell ⟨r,0,none⟩ d0).setCell ⟨r,1,none⟩ d1).setCell ⟨r,2,none⟩ d2).setCell ⟨r,3,none⟩ d3):=
  h.ag (S:=fun b=>b=r) (af.set (af.set (af.set (af.set (af.refl _ _) 0 _) 1 _) 2 _) 3 _) h1 h2
end Go.Proofs.YthgmimncdjhgnaaGreatDoor
namespace Go.LF
open Tm in
def m6(m:Tm)(s:Sm)(us:List Tm):Int:=
  if bI Tm.wf (m :: us)≠0 then bI Tm.wf (m :: us)else if Sm.wf s≠0 then Sm.wf s else
    if(m :: us).any (fun u=>!(u.isObj && u.small))=true then 32 else(Tm.ap (Tm.oI 262145) m s.args us 0).e
def lp(m:Tm)(s:Sm)(us:List Tm):Tm:=if m6 m s us=0 then(Tm.ap (Tm.oI 262145) m s.args us 0).t else Tm.aO
namespace Tm
theorem E3(t:Tm)(h:t.isObj=true)(hs:t.small=true):t.ey 0 0=0/\t.fh 0 0=t:=by
  have jm:=jq h hs
  have hm:mv (jU 0 0) 0 t=t:=by
    rw[q9 (jU 0 0) (fun i=>(i,true)) t 0 (fun x _=>by unfold lN jU;split<;>simp),He]
  have hg:fI (mv (jU 0 0) 0 t)<=1048576:=by
    rw[hm];exact(CB t 1048576 (by omega) 0).2 (fun x hx h5=>((uL t h 0 x hx).1 (by simp[h5])).2)
  obtain⟨e1,e2⟩:=rZ t jm 0 0 (by omega) (by omega) (by omega) (by omega)
  have he:t.ey 0 0=0:=by
    unfold ey;rw[if_neg (by rw[jm];simp),if_neg (by omega),if_pos (e2.1 hg)]
  refine⟨he,?_⟩;unfold fh;rw[he,if_pos rfl,<-e1,hm]
end Tm
end Go.LF
namespace Go.Proofs.YthgmimncdjhgnaaGreatDoor
open Go.RowKit Go.LF
abbrev ya(bm bs:Nat)(m0 m1 m2 m3 s0 s1:Value)(w':World):Prop:=
  (w'.cell? ⟨bm,0,none⟩=some m0/\w'.cell? ⟨bm,1,none⟩=some m1/\w'.cell? ⟨bm,2,none⟩=some m2/\w'.cell? ⟨bm,3,none⟩=some m3)/\(w'.cell? ⟨bs,0,none⟩=some s0/\w'.cell? ⟨bs,1,none⟩=some s1)
theorem ya.ag{bm bs:Nat}{m0 m1 m2 m3 s0 s1:Value}{w w':World}{S:Nat->Prop}(h:ya bm bs m0 m1 m2 m3 s0 s1 w)(hU:af S w w')(h1:¬S bm)(h2:¬S bs):ya bm bs m0 m1 m2 m3 s0 s1 w':=
  ⟨⟨hU.cell h.1.1 h1,hU.cell h.1.2.1 h1,hU.cell h.1.2.2.1 h1,hU.cell h.1.2.2.2 h1⟩,hU.cell h.2.1 h2,hU.cell h.2.2 h2⟩
theorem ya.new{bm bs:Nat}{m0 m1 m2 m3 s0 s1:Value}{w:World}(h:ya bm bs m0 m1 m2 m3 s0 s1 w)(o:Obj):ya bm bs m0 m1 m2 m3 s0 s1 (w.alloc o):=h.ag ((af.refl ae w).alloc o) (fun x=>x) (fun x=>x)
theorem ya.drew{bm bs:Nat}{m0 m1 m2 m3 s0 s1:Value}{w:World}(h:ya bm bs m0 m1 m2 m3 s0 s1 w):ya bm bs m0 m1 m2 m3 s0 s1 w.drew:=h.ag (af.refl ae w).drew (fun x=>x) (fun x=>x)
theorem ya.Ac{bm bs r:Nat}{m0 m1 m2 m3 s0 s1:Value}{w:World}(h:ya bm bs m0 m1 m2 m3 s0 s1 w)(h1:¬bm=r)(h2:¬bs=r)(d0 d1 d2 d3 d4 d5:Value):
    ya bm bs m0 m1 m2 m3 s0 s1 ((((((w.setCell ⟨r,0,none⟩ d0).setCell ⟨r,1,none⟩ d1).setCell ⟨r,2,none⟩ d2).setCell ⟨r,3,none⟩ d3).setCell ⟨r,4,none⟩ d4).setCell ⟨r,5,none⟩ d5):=
  h.ag (S:=fun b=>b=r) (af.set (af.set (af.set (af.set (af.set (af.set (af.refl _ _) 0 _) 1 _) 2 _) 3 _) 4 _) 5 _) h1 h2
def AqR(O:Nat->Prop)(H wk:Nat)(r:Tm.gp)(w:World)(v:Value)(wc:World):Prop:=
  ∃(X:Nat)(k9 i9:Int)(n9:List UInt8)(a9:Option Addr)(lI dQ:Nat),v=.pointer (some ⟨X,0,none⟩)/\H<X/\bC wc X (.int .i64 k9) (.string (B n9)) (.int .i64 i9) (.slice a9 lI dQ) (.int .i64 r.t.size) (.int .i64 r.t.depth) 200/\
   aw (fun b=>O b\/b=H\/b=X) wc r.t.az [.int .i64 k9,.string (B n9),.int .i64 i9,.slice a9 lI dQ]/\af (fun b=>b=wk) w wc
theorem L7{O:Nat->Prop}{H wk X:Nat}{r:Tm.gp}{w W:World}{z0 z1 z2 z3 z4 z5:Value}{k i:Int}{n:List UInt8}{a:Option Addr}{len cap:Nat}(h6:bC W X z0 z1 z2 z3 z4 z5 200)
    (hR:aw (fun b=>O b\/b=H\/b=X) W r.t.az [.int .i64 k,.string (B n),.int .i64 i,.slice a len cap]) (hX:H<X) (hU:af (fun b=>b=wk) w W) (hw:w.heap.size<=X):
    AqR O H wk r w (.pointer (some ⟨X,0,none⟩)) ((((((W.setCell ⟨X,0,none⟩ (.int .i64 k)).setCell ⟨X,1,none⟩ (.string (B n))).setCell ⟨X,2,none⟩ (.int .i64 i)).setCell ⟨X,3,none⟩ (.slice a len cap)).setCell ⟨X,4,none⟩ (.int .i64 r.t.size)).setCell ⟨X,5,none⟩ (.int .i64 r.t.depth)):=
  ⟨X,k,i,n,a,len,cap,rfl,hX,h6.set.1,aw.ag h6.set.2 (fun b e=>.inr (.inr e)) _ _ hR,hU.trans h6.set.2 (fun b hb e=>by omega)⟩
theorem FE(m:Tm)(us:List Tm)(f:List UInt8)(ss:List Sm)(wk bu bm bs:Nat)(O:Nat->Prop)(w:World)(k i:Int)(nm:List UInt8)(a:Option Addr)(len cap:Nat)(ua:Option Addr)(uc:Nat)(sa:Option Addr)(sc:Nat)
    (cZ:us.length<=10000) (pA:ss.length<=10000) (fJ:ss.length<=sc) (gd:∀ u∈us,u.isObj=true/\u.small=true) (Bj:∀ s∈ss,s.size<=4096) (hm:m.isObj=true) (jw:m.small=true) (zJ:O wk) (hO:∀ b,O b->b<w.heap.size) (hW:im wk 0 w)
    (hbu:cq w bu (.slice ua us.length uc) 26) (hbm:au w bm (.int .i64 k) (.string (B nm)) (.int .i64 i) (.slice a len cap) 29) (St:bK w bs (.string (B f)) (.slice sa ss.length sc) 115) (hkm:wk≠bm/\wk≠bs)
    (hR:aw O w m.az [.int .i64 k,.string (B nm),.int .i64 i,.slice a len cap]) (hE:ai O w 4 (us.map Tm.az) ua 0) (hS:ai O w 2 (ss.map Sm.az) sa 0):
    Calls Tryz.prog 195 #[.pointer (some ⟨wk,0,none⟩),.pointer (some ⟨bu,0,none⟩),.pointer (some ⟨bm,0,none⟩),.pointer (some ⟨bs,0,none⟩)] w fun e w'=>
      OA O (Tm.ap (Tm.oI 262145) m ss us 0) e w'/\af (fun b=>b=wk) w w':=by
  obtain⟨i0,hi,fS,gn,eH⟩:=info_parts yX;obtain⟨w1,aF⟩:∃ w1,w1=w.alloc (.cells #[.int .i64 0,.string (B []),.int .i64 0,.slice none 0 0,.int .i64 0,.int .i64 0] 200):=⟨_,rfl⟩;have aH:af ae w w1:=by rw[aF];exact(af.refl ae w).alloc _
  have dK:bC w1 w.heap.size (.int .i64 0) (.string (B [])) (.int .i64 0) (.slice none 0 0) (.int .i64 0) (.int .i64 0) 200:=by rw[aF];exact bC.av rfl
  have mX:w1.heap.size=w.heap.size+1:=by rw[aF];simp
  have sg:=hW.kept aH;have Uf:=hbu.kept aH;have aaz:=hbm.kept aH;have VV:=St.kept aH;have di:=(aw.fR hR).on aH;have fU:=(ai.aG _ _ _ _ hE).on aH;have lW:=(ai.aG _ _ _ _ hS).on aH;have hlu:=hbu.lt;have Me:=hbm.lt;have hls:=St.lt;have HW:=ak aF;obtain⟨H,hH⟩:∃ H,H=w.heap.size:=⟨_,rfl⟩;have HH:=ak hH;rw[<-hH]at dK mX di fU lW hlu Me hls;have j9:∀ b,O b->b<H:=by rw[hH];exact hO
  have hkH:wk<H:=j9 wk zJ;have HO:Hid (∀ b,(O b\/b=H)->b<H+1):=ak (fun b h=>by rcases h with h |h;(have:=j9 b h;omega);omega);obtain⟨ul,kD⟩:∃ ul,ul=us.length:=⟨_,rfl⟩;obtain⟨sl,gH⟩:∃ sl,sl=ss.length:=⟨_,rfl⟩;rw[<-kD]at Uf;rw[<-gH]at VV;have HL:=ak (And.intro kD gH);have YJ:(ul:Int)<=10000:=by omega
  have HP:=ak (And.intro gd (And.intro Bj (And.intro hm (And.intro jw (And.intro pA fJ)))));have HU0:=ak (And.intro aH j9);have HR:=ak (And.intro di (And.intro fU lW));have aff:ul<=10000:=by omega
  clear aF hH kD gH cZ gd Bj hm jw pA fJ aH hR hE hS hW hbu hbm St hO di fU lW;obtain⟨r,rL⟩:∃ r,r=Tm.ap (Tm.oI 262145) m ss us 0:=⟨_,rfl⟩;rw[<-rL];have Ke:=ak rL;clear rL;go_enter Tryz.func195,Tryz.ntmps195;go_upto_region 2 with fail;rw[<-show B []={ data:=#[] }from rfl,<-HW.out,<-HH.out];have hcu:=Uf.cell;go_wp2_with fail
  go_loopw [6,12] (fun v6 v12 wr=>∃(j:Nat)(css:List (List Value)),v12=.int .i64 (j:Int)/\j<=ul/\cS 200 6 (fun b=>O b\/b=H) (H+1) wr v6 ((us.take j).map iK) css/\af ae w1 wr)
    (fun _ v12 _=>ul - (intOf v12).toNat)
  case atStart=>exact⟨0,[],rfl,Nat.zero_le _,cS.nil _ _ _ _ _,af.refl _ _⟩
  clear hcu;obtain⟨j,css,rfl,hj,hD,hU⟩:=hrel;have hzU:=hU.size;have u2:(j:Int)<=10000:=by omega
  have u3:(0:Int)<=(j:Int):=by omega
  by_cases aB:j<ul
  ·have BW:j<us.length:=by rw[<-HL.out.1];exact aB
   have u4:(j:Int)<(ul:Int):=by omega
   obtain⟨eb,eo,ek,en,ei,es,ec,rfl,mz,K9,p0,p1,p2,p3,eY⟩:=aY (ai.ag (O:=fun b=>O b\/H<=b) hU (fun b e=>e.elim) _ _ _ _ HR.out.2.1) j BW;have oZ:=(HP.out.1 _ (List.getElem_mem BW)).2;have ee:=Tm.fA oZ;have fE:((us.take j).map iK).length=j:=by rw[List.length_map,List.length_take];omega
   have eQ:(us.take (j+1)).map iK=(us.take j).map iK++[iK us[j]]:=by rw[List.take_succ_eq_append_getElem BW,List.map_append];rfl
   have ME:=fun(W:World)(hu:af ae wr W)=>tn us[j] (by omega) (fun b=>(O b\/b=H)\/u6.ownBlock=some b) W (fun b e=>by have z1:=hu.size;rcases e with e |e;(have:=HO.out b e;omega);(have:=(hD.2.2.1.lt b e).2;omega)) ek ei en es us[j].args.length ec
     ((aw.weaken (fun b _ e=>e.elim (fun e=>e.elim .inl (fun e=>.inr (by omega))) (fun e=>.inr (by have:=(hD.2.2.1.lt b e).1;omega))) _ _ eY).on hu)
   have EP:=ak (And.intro fE eQ);generalize us[j].args.length=el at *
   clear fE eQ eY oZ ee;go_upto_region 5 with fail;obtain⟨w4,eh⟩:∃ w4,w4=wr.alloc (.cells #[.int .i64 ek,.string (B en),.int .i64 ei,.slice es el ec] 29):=⟨_,rfl⟩;have bw:af ae wr w4:=by rw[eh];exact(af.refl ae _).alloc _
   have C7:au w4 wr.heap.size (.int .i64 ek) (.string (B en)) (.int .i64 ei) (.slice es el ec) 29:=by rw[eh];exact au.av rfl
   have Mb:=hD.on bw HO.out;obtain⟨X,hX⟩:∃ X,X=wr.heap.size:=⟨_,rfl⟩;rw[<-eh,<-hX];rw[<-hX]at C7;have ME4:=ME w4 bw;have DX:H+1<=w4.heap.size:=by have:=bw.size;omega
   have HXX:=ak hX;clear eh p0 p1 p2 p3 ME hX;obtain⟨x0,x1,x2,x3⟩:=C7.cells;generalize hez:us[j].size=ez at *
   generalize hed:us[j].depth=ed at *
   have HZ:=ak (And.intro hez hed);clear hez hed;go_wp2_with (first |((go_at_call 196);(with_reducible refine ME4.mono ?_);rintro e w6 ⟨rfl,dg,bj⟩;have BX:=Mb.on bj HO.out;have z6:=bj.size;have fj:=(af.refl ae w6).alloc (.cells #[.int .i64 ek,.string (B en),.int .i64 ei,.slice es el ec,.int .i64 ez,.int .i64 ed] 200);have Sz:=BX.on fj HO.out;have qH:=Sz.2.2.1;rw[EP.out.1]at qH)|(at_builtin;go_loud (refine wpList_append_lies _ (by rfl) _ _ 201 (by rfl) (H+1) 200 i0 (.agg #[.int .i64 0,.string (B []),.int .i64 0,.slice none 0 0,.int .i64 0,.int .i64 0]) 6 72 (by kernel_rfl) hi fS gn eH rfl (by decide) u6 j css.flatten (by rfl) qH ⟨w6.heap.size,0,none⟩ 1 1 [.int .i64 ek,.string (B en),.int .i64 ei,.slice es el ec,.int .i64 ez,.int .i64 ed] (by rfl) rfl (World.news_of_block (heap_alloc_new w6 _)) (by simp[Value.oneCell']) (by omega) (by simp only[maxLen];omega) (by omega) (by simp;omega) _ rfl ?_);intro g aS w7 bq aN ft _hg7))
   have A8:aw (fun b=>(O b\/b=H)\/u6.ownBlock=some b) (w6.alloc (.cells #[.int .i64 ek,.string (B en),.int .i64 ei,.slice es el ec,.int .i64 ez,.int .i64 ed] 200)) (iK us[j]) [.int .i64 ek,.string (B en),.int .i64 ei,.slice es el ec,.int .i64 ez,.int .i64 ed]:=by
     rw[<-HZ.out.1,<-HZ.out.2];exact vV.2 ⟨dg.on ((af.refl ae w6).alloc _),rfl,rfl⟩
   have gE:w7.ownsRow (H+1) 200 6 (.slice (some ⟨g,0,none⟩) (((us.take j).map iK).length+1) aS) (((us.take j).map iK).length+1) (css.flatten++[.int .i64 ek,.string (B en),.int .i64 ei,.slice es el ec,.int .i64 ez,.int .i64 ed]):=by rw[EP.out.1];exact bq
   have lL:=Sz.appended (d:=iK us[j]) rfl A8 gE aN ft (Nat.le_refl _);rw[EP.out.1,<-EP.out.2]at lL;have fl:=Sz.upto aN;have cW:=(((hU.and bw).and bj).and fj).trans fl (fun b hb e=>by omega);have HN:=ak (And.intro lL cW);clear A8 gE lL fl cW;go_wp2_with fail;try go_roundw
   all_goals first
     |exact⟨⟨j+1,_,by go_num,by omega,HN.out.1,HN.out.2⟩,by simp[intOf];omega⟩
     |exact⟨j+1,_,by go_num,by omega,HN.out.1,HN.out.2⟩
     |(simp[intOf];omega)
  have b7:j=ul:=by omega
  subst b7;have eQ:us.take j=us:=List.take_of_length_le (by rw[<-HL.out.1];exact Nat.le_refl _);rw[eQ]at hD;obtain⟨va,vc,rfl,fp,hF⟩:=hD.rep HO.out;rw[List.length_map,<-HL.out.1]at fp;rw[List.length_map,<-HL.out.1];have aay:=aaz.kept hU;have Zk:=VV.kept hU;have dO:=dK.kept hU;have x6:=sg.kept hU;have jg:af ae w wr:=HU0.out.1.and hU;have fG:aw (fun b=>O b\/b=H) wr m.az [.int .i64 k,.string (B nm),.int .i64 i,.slice a len cap]:=aw.weaken (fun b _ e=>e.elim .inl (fun e=>.inr (by omega))) _ _ (HR.out.1.on hU);have JD:ai (fun b=>O b\/b=H) wr 2 (ss.map Sm.az) sa 0:=ai.weaken (fun b _ e=>e.elim .inl (fun e=>.inr (by omega))) _ _ _ _ (HR.out.2.2.on hU);have ME:=fun(W:World)(hu:af ae wr W)=>tn m (by have:=Tm.fA HP.out.2.2.2.1;omega) (fun b=>O b\/b=H) W (fun b e=>by have:=HO.out b e;have:=hu.size;omega) k i nm a len cap (fG.on hu)
  have AP:=fun(W:World)(hu:af ae wr W)=>
    y8 262145 (T3 262145) m ss us f 0 wk (fun b=>O b\/b=H\/(wr.heap.size<=b/\b<W.heap.size)) W k i nm a len cap sa sc va vc (by omega) (by omega) HP.out.2.2.1 HP.out.2.2.2.1 (by rw[<-HL.out.1];exact aff) HP.out.2.2.2.2.1 HP.out.2.2.2.2.2 HP.out.1 HP.out.2.1 (.inl zJ)
      (fun b e=>by have h2:=hu.size;rcases e with e |e |e;(have:=HO.out b (.inl e);omega);(have:=HO.out b (.inr e);omega);exact e.2) (x6.kept hu) (aw.weaken (fun b _ e=>e.elim (fun e=>.inl (.inl e)) (fun e=>e.elim (fun e=>.inl (.inr e)) (fun e=>.inr e.1))) _ _ ((aw.fR fG).on hu))
      (ai.weaken (fun b _ e=>e.elim (fun e=>.inl (.inl e)) (fun e=>e.elim (fun e=>.inl (.inr e)) (fun e=>.inr e.1))) _ _ _ _ ((ai.aG _ _ _ _ JD).on hu)) (ai.weaken (fun b _ e=>e.elim (fun e=>.inl (.inl e)) (fun e=>e.elim (fun e=>.inl (.inr e)) (fun e=>.inr e.1))) _ _ _ _ ((ai.aG _ _ _ _ hF).on hu))
  rw[<-Ke.out,<-HL.out.1,<-HL.out.2]at AP;have hg:=Tm.Br (Tm.oI 262145) (fun u s b w hu Ks hb hd=>Tm.oD 262145 [u] [s] 0 b w (by simpa using⟨hu,Ks⟩) (by omega) (by omega) hb) us m ss 0 HP.out.1 HP.out.2.2.1 HP.out.2.2.2.1;rw[<-Ke.out]at hg;have WW:=dO.lt;have hHw:w.heap.size<=H:=by rw[<-HH.out];exact Nat.le_refl _
  have hkw:wk<w.heap.size:=by rw[<-HH.out];exact hkH
  have G5:=hU.size;have HG:=ak hg;clear hD hF fG JD hg x6;generalize m.size=msz at *
  generalize m.depth=mdp at *
  have S2:ya bm bs (.int .i64 k) (.string (B nm)) (.int .i64 i) (.slice a len cap) (.string (B f)) (.slice sa sl sc) wr:=⟨aay.cells,Zk.cells⟩;have UH:bm<wr.heap.size:=by omega
  have Cs:bs<wr.heap.size:=by omega
  have GY:H<wr.heap.size:=by omega
  have Lp:¬bm=wk:=fun e=>hkm.1 e.symm
  have Mq:¬bs=wk:=fun e=>hkm.2 e.symm
  have r9:=jg.mono (fun _ _ x=>x.elim) (S':=fun b=>b=wk);clear Uf aaz VV dK sg aay Zk eQ;go_upto_region 7 with fail;by_cases he:r.e=0
  ·have HE:=ak he;clear he;have hd:af ae wr wr.drew:=(af.refl ae _).drew;have ha:af ae wr (wr.alloc (.cells #[.int .i64 0,.string (B []),.int .i64 0,.slice none 0 0,.int .i64 0,.int .i64 0] 200)).drew:=((af.refl ae _).alloc _).drew;have MEd:=ME _ hd;have MEa:=ME _ ha;have Sd:=S2.drew;have Sa:=(S2.new (.cells #[.int .i64 0,.string (B []),.int .i64 0,.slice none 0 0,.int .i64 0,.int .i64 0] 200)).drew;clear ME;go_cut [9]from 22 to 27 (fun v9 wc=>AqR O H wk r wr v9 wc)
   case first=>
     go_region_held3 (fun w'=>ya bm bs (.int .i64 k) (.string (B nm)) (.int .i64 i) (.slice a len cap) (.string (B f)) (.slice sa sl sc) w')
       (first |(with_reducible assumption)|(repeat' (first |(with_reducible assumption)|(with_reducible exact S2)|(with_reducible refine ya.drew ?_)|(with_reducible refine ya.new ?_ _)|(with_reducible refine ya.Ac ?_ (by(try simp only[World.size_alloc]);omega) (by(try simp only[World.size_alloc]);omega) _ _ _ _ _ _))))
       (first
         |((go_at_call 196);(with_reducible refine MEd.mono ?_);rintro e wA ⟨rfl,hRA,Bd⟩;have SA:=Sd.ag Bd (fun x=>x) (fun x=>x);have A5:af ae wr wA:=hd.and Bd;have zA:=A5.size)
         |((go_at_call 196);(with_reducible refine MEa.mono ?_);rintro e wA ⟨rfl,hRA,Bd⟩;have SA:=Sa.ag Bd (fun x=>x) (fun x=>x);have A5:af ae wr wA:=ha.and Bd;have zA:=A5.size;have ZE:=(((bC.av rfl:bC (wr.alloc (.cells #[.int .i64 0,.string (B []),.int .i64 0,.slice none 0 0,.int .i64 0,.int .i64 0] 200)) wr.heap.size _ _ _ _ _ _ 200).kept (af.refl ae _).drew).kept Bd);have ap1:=ZE.lt)
         |((go_at_call 197);(with_reducible refine(AP _ (A5.alloc (.cells #[.int .i64 0,.string (B []),.int .i64 0,.slice none 0 0,.int .i64 0,.int .i64 0] 200))).mono ?_);rintro e wB ⟨lS,YV,tE⟩;obtain⟨k9,n9,i9,a9,lI,dQ,rfl,Zs⟩:=lS.ok HE.out;have SB:=(SA.new (.cells #[.int .i64 0,.string (B []),.int .i64 0,.slice none 0 0,.int .i64 0,.int .i64 0] 200)).ag tE Lp Mq;have zB:=tE.size;have Cj:=(A5.alloc (.cells #[.int .i64 0,.string (B []),.int .i64 0,.slice none 0 0,.int .i64 0,.int .i64 0] 200));have h6:=((bC.av rfl:bC (wA.alloc (.cells #[.int .i64 0,.string (B []),.int .i64 0,.slice none 0 0,.int .i64 0,.int .i64 0] 200)) wA.heap.size _ _ _ _ _ _ 200).ag tE (by omega));obtain⟨c0,c1,c2,c3,c4,c5⟩:=h6.cells;obtain⟨d0,d1,d2,d3,d4,d5⟩:=h6.aq;have U1:=h6.lt)
         |((go_at_call 197);have h6c:=ZE;(with_reducible refine(AP _ A5).mono ?_);rintro e wB ⟨lS,YV,tE⟩;obtain⟨k9,n9,i9,a9,lI,dQ,rfl,Zs⟩:=lS.ok HE.out;have SB:=SA.ag tE Lp Mq;have zB:=tE.size;have Cj:=A5;have h6:=ZE.ag tE (by omega);obtain⟨c0,c1,c2,c3,c4,c5⟩:=h6.cells;obtain⟨d0,d1,d2,d3,d4,d5⟩:=h6.aq;have U1:=h6.lt)
         |((go_at_call 197);(with_reducible refine(AP _ A5).mono ?_);rintro e wB ⟨lS,YV,tE⟩;obtain⟨k9,n9,i9,a9,lI,dQ,rfl,Zs⟩:=lS.ok HE.out;have SB:=SA.ag tE Lp Mq;have zB:=tE.size;have Cj:=A5))
     all_goals
       go_wp2_with fail;go_meet
     all_goals
       have Xw:af (fun b=>b=wk) wr wB:=(Cj.mono (fun _ _ x=>x.elim)).trans tE (fun _ _ e=>e)
     all_goals first
       |(have h7:=h6;with_reducible refine L7 h7 ?_ ?_ Xw ?_;· exact(aw.weaken (fun b _ e=>by rcases e with e |e |e;(exact .inl e);(exact .inr (.inl e));(right;right;subst e;simp only[World.size_alloc];omega)) _ _ Zs)
         ·omega
         omega)
       |(have h7:=h6;with_reducible refine L7 h7 ?_ ?_ Xw ?_;· exact(aw.weaken (fun b _ e=>by rcases e with e |e |e;(exact .inl e);(exact .inr (.inl e));(right;right;subst e;omega)) _ _ Zs)
         ·omega
         omega)
       |(refine⟨wB.heap.size,k9,i9,n9,a9,lI,dQ,rfl,?_,?_,?_,?_⟩
         ·omega
         ·exact bC.av rfl
         ·exact aw.weaken (fun b _ e=>by rcases e with e |e |e;(exact .inl (.inl e));(exact .inl (.inr (.inl e)));(right;omega)) _ _ ((aw.fR Zs).on ((af.refl ae wB).alloc _))
         exact Xw.alloc _)
   obtain⟨X,k9,i9,n9,a9,lI,dQ,rfl,hXH,h6,oK,bU⟩:=hcut;obtain⟨w9,rfl⟩:∃ q,q=wc:=⟨wc,rfl⟩;have ve:=HG.out.elim (fun h=>h) (fun h=>absurd HE.out h.1);obtain⟨sz1,sz2⟩:=Tm.E3 r.t ve.2.1 ve.2.2;have SH:=zM r.t (by have:=Tm.lT ve.2.1 ve.2.2;omega) 0 0 w9 _ (dj oK);rw[sz1,sz2]at SH;obtain⟨c0,c1,c2,c3,c4,c5⟩:=h6.cells;go_wp2_with fail
   (with_reducible refine SH.mono ?_);rintro e kB ⟨k5,i5,n5,a5,cE,cJ,rfl,sw,gZ⟩;have h7:=h6.kept gZ;have lv:=(dO.ag bU (by omega)).kept gZ;have ir:af (fun b=>b=wk) w kB:=((jg.mono (fun _ _ x=>x.elim)).trans bU (fun _ _ e=>e)).trans gZ (fun _ _ e=>e.elim);have qN:aw (fun b=>O b\/b=H\/b=X) kB r.t.az [.int .i64 k5,.string (B n5),.int .i64 i5,.slice a5 cE cJ]:=aw.weaken (fun b _ e=>by have h1:=h6.lt;have h2:=bU.size;rcases e with e |e |e;(have:=HO.out b (.inl e);omega);all_goals omega) _ _ sw;have h8:=(((h7.ui (.int .i64 k5)).mu (.string (B n5))).kG (.int .i64 i5)).mH (.slice a5 cE cJ);have hUs:af (fun b=>b=X) kB ((((kB.setCell ⟨X,0,none⟩ (.int .i64 k5)).setCell ⟨X,1,none⟩ (.string (B n5))).setCell ⟨X,2,none⟩ (.int .i64 i5)).setCell ⟨X,3,none⟩ (.slice a5 cE cJ)):=af.set (af.set (af.set (af.set (af.refl _ _) 0 _) 1 _) 2 _) 3 _;have MI:=lv.ag hUs (by omega);have Lz:=aw.ag hUs (fun b e=>.inr (.inr e)) _ _ qN;have kh:af (fun b=>b=wk) w _:=ir.trans hUs (fun b hb e=>by have:=HH.out;omega);obtain⟨c0,c1,c2,c3,c4,c5⟩:=h7.cells;obtain⟨d0,d1,d2,d3,d4,d5⟩:=h7.aq;have h7l:=h7.lt;obtain⟨Ff,rS⟩:∃ Ff,Ff=((((kB.setCell ⟨X,0,none⟩ (.int .i64 k5)).setCell ⟨X,1,none⟩ (.string (B n5))).setCell ⟨X,2,none⟩ (.int .i64 i5)).setCell ⟨X,3,none⟩ (.slice a5 cE cJ)):=⟨_,rfl⟩;rw[<-rS]at h8 MI Lz kh;have TG:=ak rS;clear rS hUs;go_upto_region 9 with fail;rw[<-TG.out];clear c0 c1 c2 c3 c4 c5 d0 d1 d2 d3 d4 d5;obtain⟨c0,c1,c2,c3,c4,c5⟩:=h8.cells;obtain⟨y0,y1,y2,y3,y4,y5⟩:=MI.cells;obtain⟨z0,z1,z2,z3,z4,z5⟩:=MI.aq;have WW:=MI.lt;have ah:=MI.set (d0:=.int .i64 k5) (d1:=.string (B n5)) (d2:=.int .i64 i5) (d3:=.slice a5 cE cJ) (d4:=.int .i64 r.t.size) (d5:=.int .i64 r.t.depth);obtain⟨e0,e1,e2,e3,e4,e5⟩:=ah.1.cells;have dJ:=ak (And.intro e0 (And.intro e1 (And.intro e2 (And.intro e3 (And.intro e4 (And.intro e5 ah.2))))));clear e0 e1 e2 e3 e4 e5 ah;go_wp2_with fail;obtain⟨e0,e1,e2,e3,e4,e5,ah⟩:=dJ.out;refine bodyPost_ret (v:=.agg #[.int .i64 k5,.string (B n5),.int .i64 i5,.slice a5 cE cJ,.int .i64 r.t.size,.int .i64 r.t.depth]) ?_ rfl ?_
   ·simp[results,Tryz.f195,go_sem,e0,e1,e2,e3,e4,e5]
   exact⟨.inl ⟨HE.out,k5,n5,i5,a5,cE,cJ,rfl,aw.weaken (fun b _ e=>.inl e) _ _ (aw.ag ah (fun b e=>.inr (.inl e)) _ _ Lz)⟩,kh.trans ah (fun b hb e=>by have:=HH.out;omega)⟩
  have HE:=ak he;clear he;have hd:af ae wr wr.drew:=(af.refl ae _).drew;have ha:af ae wr (wr.alloc (.cells #[.int .i64 0,.string (B []),.int .i64 0,.slice none 0 0,.int .i64 0,.int .i64 0] 200)).drew:=((af.refl ae _).alloc _).drew;have MEd:=ME _ hd;have MEa:=ME _ ha;have Sd:=S2.drew;have Sa:=(S2.new (.cells #[.int .i64 0,.string (B []),.int .i64 0,.slice none 0 0,.int .i64 0,.int .i64 0] 200)).drew;clear ME
  go_region_held2 (fun w'=>ya bm bs (.int .i64 k) (.string (B nm)) (.int .i64 i) (.slice a len cap) (.string (B f)) (.slice sa sl sc) w')
    (first |(with_reducible assumption)|(repeat' (first |(with_reducible assumption)|(with_reducible exact S2)|(with_reducible refine ya.drew ?_)|(with_reducible refine ya.new ?_ _)|(with_reducible refine ya.Ac ?_ (by(try simp only[World.size_alloc]);omega) (by(try simp only[World.size_alloc]);omega) _ _ _ _ _ _))))
    (first
      |((go_at_call 196);(with_reducible refine MEd.mono ?_);rintro e wA ⟨rfl,hRA,Bd⟩;have SA:=Sd.ag Bd (fun x=>x) (fun x=>x);have A5:af ae wr wA:=hd.and Bd;have zA:=A5.size)
      |((go_at_call 196);(with_reducible refine MEa.mono ?_);rintro e wA ⟨rfl,hRA,Bd⟩;have SA:=Sa.ag Bd (fun x=>x) (fun x=>x);have A5:af ae wr wA:=ha.and Bd;have zA:=A5.size;have ZE:=(((bC.av rfl:bC (wr.alloc (.cells #[.int .i64 0,.string (B []),.int .i64 0,.slice none 0 0,.int .i64 0,.int .i64 0] 200)) wr.heap.size _ _ _ _ _ _ 200).kept (af.refl ae _).drew).kept Bd))
      |((go_at_call 197);(with_reducible refine(AP _ (A5.alloc (.cells #[.int .i64 0,.string (B []),.int .i64 0,.slice none 0 0,.int .i64 0,.int .i64 0] 200))).mono ?_);rintro e wB ⟨lS,YV,tE⟩;have dV:=lS.bad HE.out;have Cj:=A5.alloc (.cells #[.int .i64 0,.string (B []),.int .i64 0,.slice none 0 0,.int .i64 0,.int .i64 0] 200);rcases e with v |ch |_;rotate_left;(obtain rfl:=Ending.panicked.inj dV;dsimp only;exact⟨rfl,.inr ⟨HE.out,rfl⟩,((jg.mono (fun _ _ x=>x.elim)).trans Cj (fun _ _ e=>e.elim)).trans tE (fun _ _ e=>e)⟩);(exact absurd dV (by simp[mY]));(have hf:Hid False:=ak (by simp[mY]at dV));(obtain⟨v0,v1,v2,v3,v4,v5,rfl⟩:=LC v hf.out);clear dV;dsimp only;have SB:=(SA.new (.cells #[.int .i64 0,.string (B []),.int .i64 0,.slice none 0 0,.int .i64 0,.int .i64 0] 200)).ag tE Lp Mq;have h6:=((bC.av rfl:bC (wA.alloc (.cells #[.int .i64 0,.string (B []),.int .i64 0,.slice none 0 0,.int .i64 0,.int .i64 0] 200)) wA.heap.size _ _ _ _ _ _ 200).ag tE (by omega));obtain⟨c0,c1,c2,c3,c4,c5⟩:=h6.cells;obtain⟨d0,d1,d2,d3,d4,d5⟩:=h6.aq;have U1:=h6.lt;have zB:=tE.size)
      |((go_at_call 197);have h6c:=ZE;(with_reducible refine(AP _ A5).mono ?_);rintro e wB ⟨lS,YV,tE⟩;have dV:=lS.bad HE.out;rcases e with v |ch |_;rotate_left;(obtain rfl:=Ending.panicked.inj dV;dsimp only;exact⟨rfl,.inr ⟨HE.out,rfl⟩,((jg.mono (fun _ _ x=>x.elim)).trans A5 (fun _ _ e=>e.elim)).trans tE (fun _ _ e=>e)⟩);(exact absurd dV (by simp[mY]));(have hf:Hid False:=ak (by simp[mY]at dV));(obtain⟨v0,v1,v2,v3,v4,v5,rfl⟩:=LC v hf.out);clear dV;dsimp only;have SB:=SA.ag tE Lp Mq;have h6:=h6c.ag tE (by omega);obtain⟨c0,c1,c2,c3,c4,c5⟩:=h6.cells;obtain⟨d0,d1,d2,d3,d4,d5⟩:=h6.aq;have U1:=h6.lt;have zB:=tE.size)
      |((go_at_call 197);(with_reducible refine(AP _ A5).mono ?_);rintro e wB ⟨lS,YV,tE⟩;have dV:=lS.bad HE.out;rcases e with v |ch |_;rotate_left;(obtain rfl:=Ending.panicked.inj dV;dsimp only;exact⟨rfl,.inr ⟨HE.out,rfl⟩,((jg.mono (fun _ _ x=>x.elim)).trans A5 (fun _ _ e=>e.elim)).trans tE (fun _ _ e=>e)⟩);(exact absurd dV (by simp[mY]));(have hf:Hid False:=ak (by simp[mY]at dV));(obtain⟨v0,v1,v2,v3,v4,v5,rfl⟩:=LC v hf.out);clear dV;dsimp only;have SB:=SA.ag tE Lp Mq;have zB:=tE.size))
  all_goals exact hf.out.elim
end Go.Proofs.YthgmimncdjhgnaaGreatDoor
namespace Go.LF
theorem Gl{α:Type}(f:α->Int)(x:α):bI f [x]=f x:=by
  unfold bI;by_cases h:f x=0
  ·rw[if_neg (by simp[h])];unfold bI;exact h.symm
  rw[if_pos h]
end Go.LF
namespace Go.Proofs.YthgmimncdjhgnaaGreatDoor
open Go.RowKit Go.LF
theorem FG(O:Nat->Prop)(m:Tm)(s:Sm)(us:List Tm)(Pe:m.wt<=1000000)(xV:∀ u∈us,u.wt<=1000000)(CG:s.wt<=1000000)(cZ:us.length<=10000)(w:World)(hO:∀ b,O b->b<w.heap.size)(cs es:List Value)(ua:Option Addr)(uc:Nat)
    (hR:aw O w m.az cs) (hS:aw O w s.az es) (hE:ai O w 4 (us.map Tm.az) ua 0):
    Calls Tryz.prog 169 #[.agg cs.toArray,.agg es.toArray,.slice ua us.length uc] w (qa O (m6 m s us) (lp m s us) w):=by
  obtain⟨k,n,i,ts,a,cap,htt,rfl,_,_⟩:=aP hR;generalize ts.length=len at *
  obtain⟨f,ss,rfl⟩:∃ f ss,s=.mk f ss:=by cases s with |mk f l=>exact⟨f,l,rfl⟩
  obtain⟨sa,sc,rfl,fJ,Zn⟩:=ig.1 hS;obtain⟨w1,aF⟩:∃ w1,w1=(((w.alloc (.cells #[.int .i64 k,.string (B n),.int .i64 i,.slice a len cap] 29)).alloc (.cells #[.string (B f),.slice sa ss.length sc] 115)).alloc (.cells #[.slice ua us.length uc] 26)).alloc (.cells #[.int .i64 0,.string (B []),.int .i64 0,.slice none 0 0] 29):=⟨_,rfl⟩;have aH:af ae w w1:=by rw[aF];exact((((af.refl ae w).alloc _).alloc _).alloc _).alloc _
  have mN:au w1 w.heap.size (.int .i64 k) (.string (B n)) (.int .i64 i) (.slice a len cap) 29:=by rw[aF];exact(((au.av rfl).kept ((af.refl ae _).alloc _)).kept ((af.refl ae _).alloc _)).kept ((af.refl ae _).alloc _)
  have jI:bK w1 (w.heap.size+1) (.string (B f)) (.slice sa ss.length sc) 115:=by rw[aF];exact((bK.av (by simp)).kept ((af.refl ae _).alloc _)).kept ((af.refl ae _).alloc _)
  have Hh:cq w1 (w.heap.size+1+1) (.slice ua us.length uc) 26:=by rw[aF];exact(cq.av (by simp)).kept ((af.refl ae _).alloc _)
  have dK:au w1 (w.heap.size+1+1+1) (.int .i64 0) (.string (B [])) (.int .i64 0) (.slice none 0 0) 29:=by rw[aF];exact au.av (by simp)
  have di:=(aw.fR hR).on aH;have lW:=(aw.fR hS).on aH;have fU:=(ai.aG _ _ _ _ hE).on aH;have ic:=(ai.aG _ _ _ _ Zn).on aH;have HW:=ak aF;obtain⟨H,hH⟩:∃ H,H=w.heap.size:=⟨_,rfl⟩;have HH:=ak hH;rw[<-hH]at mN jI Hh dK di lW fU ic;have FA:∀ b,O b->b<H:=by rw[hH];exact hO
  have HO:=ak FA;obtain⟨E,Kr⟩:∃ E,E=m6 m (.mk f ss) us:=⟨_,rfl⟩;obtain⟨X,Gw⟩:∃ X,X=lp m (.mk f ss) us:=⟨_,rfl⟩;rw[<-Kr,<-Gw];unfold lp at Gw;rw[<-Kr]at Gw;unfold m6 at Kr;have Kj:=ak (And.intro Kr Gw);have FO:=fun(W:World)(a9:Option Addr)(c9:Nat)(b9:Option Addr)h9 h8=>Bm (m :: us) [.mk f ss] (by simp;omega) (fun u hu=>(List.mem_cons.1 hu).elim (fun h=>h ▸ Pe) (xV u)) (by simp) (by simpa using CG) W a9 c9 b9 1 h9 h8
  rw[Gl]at FO;have CO:=fun(W:World)(a9:Option Addr)(c9:Nat)h9=>gv (ts:=m :: us) 193 (fun u=>!(u.isObj && u.small)) (by simp;omega) (fun x hx W cs h=>yq x ((List.mem_cons.1 hx).elim (fun h=>h ▸ Pe) (xV x)) W cs h) (Tryz.call193) W a9 c9 h9
  obtain⟨ul,kD⟩:∃ ul,ul=us.length:=⟨_,rfl⟩;obtain⟨sl,gH⟩:∃ sl,sl=ss.length:=⟨_,rfl⟩;rw[<-kD,<-gH];rw[<-kD]at cZ Hh HW;rw[<-gH]at jI HW fJ;have HL:=ak (And.intro kD (And.intro gH fJ));have HU:=ak aH;have YJ:(ul:Int)<=10000:=by omega
  have mX:H+4<=w1.heap.size:=by have:=dK.lt;omega
  have HP:=ak (And.intro Pe (And.intro xV CG));have fl:=gP.one (O:=fun b=>O b\/b=H\/b=H+1\/b=H+1+1\/b=H+1+1+1) (aw.weaken (fun b _ e=>by rcases e with e |e;(exact .inl e);(right;omega)) _ _ di);have cK:af ae w1 (w1.alloc (.cells #[.int .i64 k,.string (B n),.int .i64 i,.slice a len cap] 29)):=(af.refl ae _).alloc _;clear aF hH hR hS hE Zn Kr Gw kD gH aH hO FA Pe xV CG fJ;obtain⟨t0,t1,t2,t3⟩:=mN.cells;obtain⟨s0,s1⟩:=jI.cells;have u0:=Hh.cell;have Js:=mN.lt;have aro:=jI.lt;have aoz:=Hh.lt;go_enter Tryz.func169,Tryz.ntmps169;go_upto_region 1 with fail;rw[<-show B []={ data:=#[] }from rfl,<-HW.out,<-HH.out];go_wp2_with (at_builtin;go_loud (refine eI (by rfl) _ _ (by rfl) (by rfl) fl ua ul uc us (by rfl) HL.out.1 (ai.weaken (fun b _ e=>by rcases e with(e |e)|e;(exact .inl e);all_goals(right;omega)) _ _ _ _ (fU.on cK)) (by simp;have:=HL.out.1;omega) (by have:=cK.size;omega) ?_);intro v3 w3 Vm Ii tZ FM;have nL:=ck tZ;have aZ:af ae w1 w3:=(cK.trans nL (fun b hb e=>by simp[Value.ownBlock]at e;omega));obtain⟨va,vc,Ki,fp,BP⟩:=Ii.rep;subst Ki;have xL:=jI.kept aZ;have ahU:=xL.cells;obtain⟨s30,s31⟩:=ahU;have apf:=xL.lt)
  obtain⟨w4,eh⟩:∃ w4,w4=w3.alloc (.cells #[.string (B f),.slice sa sl sc] 115):=⟨_,rfl⟩;have dM:af ae w3 w4:=by rw[eh];exact(af.refl ae _).alloc _
  have hE4:ai ae w4 2 ([Sm.mk f ss].map Sm.az) (some ⟨w3.heap.size,0,none⟩) 0:=by
    refine IJ (dj ((lW.on aZ).on dM)) (fun x=>x) (T:=115) ?_;rw[eh,HL.out.2.1];exact bK.av rfl
  rw[<-eh];have XV:=BP.on dM;have F4:=FO w4 va vc _ (gq XV) hE4;simp only[List.length_cons,List.length_nil,Nat.zero_add]at F4;have bw:=aZ.and dM;clear eh FO fl cK nL Ii tZ FM BP t0 t1 t2 t3 s0 s1 s30 s31 u0
  (with_reducible refine F4.mono ?_);rintro e w5 ⟨rfl,ba⟩;have bj:=bw.and ba;have Pd:=mN.kept bj;have sf:=jI.kept bj;have JK:=Hh.kept bj;have fD:=dK.kept bj;have wo:=XV.on ba;obtain⟨q,hq⟩:∃ q:Int,q=if bI Tm.wf (m :: us)≠0 then bI Tm.wf (m :: us)else Sm.wf (.mk f ss):=⟨_,rfl⟩
  rw[<-hq];have HQ:=ak hq;clear hq F4;by_cases hq:q=0
  case neg=>
    have gL:E=q:=by
      have h1:=Kj.out.1;have h2:=HQ.out;by_cases hf:bI Tm.wf (m :: us)=0
      ·rw[if_neg (by simp[hf])]at h1 h2;rw[h1,<-h2,if_pos hq]
      rw[if_pos hf]at h1 h2;rw[h1,h2]
    have H0:=ak (And.intro gL (show X=Tm.aO by rw[Kj.out.2,gL,if_neg hq]));have QH:(q !=0)=true:=by simpa using hq
    clear gL hq;have ah:=fD.set (d0:=.int .i64 0) (d1:=.string (B [])) (d2:=.int .i64 0) (d3:=.slice none 0 0);obtain⟨y0,y1,y2,y3⟩:=fD.cells;obtain⟨z0,z1,z2,z3⟩:=fD.aq;obtain⟨e0,e1,e2,e3⟩:=ah.1.cells;have dJ:=ak (And.intro e0 (And.intro e1 (And.intro e2 (And.intro e3 ah.2))));have Gh:=fD.lt;clear e0 e1 e2 e3 ah;go_wp2_with fail;obtain⟨e0,e1,e2,e3,ah⟩:=dJ.out;refine bodyPost_ret (v:=.tuple #[.agg #[.int .i64 0,.string (B []),.int .i64 0,.slice none 0 0],.int .i64 q]) ?_ rfl ?_
    ·simp[results,Tryz.f169,go_sem,e0,e1,e2,e3]
    exact⟨0,0,[],none,0,0,by rw[H0.out.1],by rw[H0.out.2];exact bD 0 [] 0,(HU.out.and bj).trans ah (fun b hb e=>by have:=HH.out;omega)⟩
  subst hq
  have tU:bI Tm.wf (m :: us)=0:=by
    have h2:=HQ.out;by_cases hf:bI Tm.wf (m :: us)=0
    ·exact hf
    rw[if_pos hf]at h2;exact absurd h2.symm hf
  have hf2:Sm.wf (.mk f ss)=0:=by
    have h2:=HQ.out;rw[if_neg (by simp[tU])]at h2;exact h2.symm
  have fU:=Kj.out.1;rw[if_neg (by simp[tU]),if_neg (by simp[hf2])]at fU;have C6:=CO w5 va vc (gq wo);obtain⟨an,UG⟩:∃ an,an=(m :: us).any (fun u=>!(u.isObj && u.small)):=⟨_,rfl⟩;rw[<-UG]at C6 fU;have HAN:=ak (And.intro UG (And.intro tU hf2));have du:(m :: us).length=us.length+1:=rfl;rw[du]at C6;clear UG CO HQ tU hf2 du;cases an
  case true=>
    rw[if_pos rfl]at fU;have H0:=ak (And.intro fU (show X=Tm.aO by rw[Kj.out.2,fU];rfl));clear fU;go_wp2_with fail;refine C6.mono ?_;rintro e w7 ⟨rfl,cm⟩;have j4:=fD.kept cm;clear fD;have ah:=j4.set (d0:=.int .i64 0) (d1:=.string (B [])) (d2:=.int .i64 0) (d3:=.slice none 0 0);obtain⟨y0,y1,y2,y3⟩:=j4.cells;obtain⟨z0,z1,z2,z3⟩:=j4.aq;obtain⟨e0,e1,e2,e3⟩:=ah.1.cells;have dJ:=ak (And.intro e0 (And.intro e1 (And.intro e2 (And.intro e3 ah.2))));have Gh:=j4.lt;clear e0 e1 e2 e3 ah;go_wp2_with fail;obtain⟨e0,e1,e2,e3,ah⟩:=dJ.out;refine bodyPost_ret (v:=.tuple #[.agg #[.int .i64 0,.string (B []),.int .i64 0,.slice none 0 0],.int .i64 32]) ?_ rfl ?_
    ·simp[results,Tryz.f169,go_sem,e0,e1,e2,e3]
    exact⟨0,0,[],none,0,0,by rw[H0.out.1],by rw[H0.out.2];exact bD 0 [] 0,(HU.out.and (bj.and cm)).trans ah (fun b hb e=>by have:=HH.out;omega)⟩
  rw[if_neg (by simp)]at fU
  have pK:∀ u∈m :: us,u.isObj=true/\u.small=true:=by
    intro u hu;have h1:=HAN.out.1.symm;rw[List.any_eq_false]at h1;simpa using h1 u hu
  have ee:(Sm.mk f ss).size<=4096:=by
    have h1:=HAN.out.2.2;unfold Sm.wf at h1;split at h1
    ·cases h1
    split at h1
    ·cases h1
    rename_i h2;simp at h2;simp only[Sm.aM];omega
  have rY:X=if E=0 then(Tm.ap (Tm.oI 262145) m ss us 0).t else Tm.aO:=Kj.out.2
  have kJ:E=(Tm.ap (Tm.oI 262145) m ss us 0).e:=fU
  have SG:(Tm.ap (Tm.oI 262145) m ss us 0).e≠0->(Tm.ap (Tm.oI 262145) m ss us 0).t=Tm.aO:=by
    intro h;unfold Tm.ap at h ⊢;split
    ·rename_i hl;rw[if_pos hl]at h;exact Tm.xC _ (fun u s b w h=>Tm.Bw _ _ _ _ _ _ h) _ _ _ _ h
    rfl
  have pA:ss.length<=10000:=by have:=Sm.aA ss;simp only[Sm.aM]at ee;omega
  have MA:=fun(W:World)(wk:Nat)(Q:Nat->Prop)=>FE m us f ss wk (H+1+1) H (H+1) Q W k i n a len cap ua uc sa sc (by rw[<-HL.out.1];exact cZ) pA (by rw[<-HL.out.2.1];exact HL.out.2.2) (fun u hu=>pK u (by simp[hu])) (fun s hs=>by have:=Sm.aK hs;simp only[Sm.aM]at ee;omega) (pK m (by simp)).1 (pK m (by simp)).2
  rw[<-HL.out.1,<-HL.out.2.1]at MA;have RU:=fun(W:World)=>GA 195 [.pointer (some ⟨H+1+1,0,none⟩),.pointer (some ⟨H,0,none⟩),.pointer (some ⟨H+1,0,none⟩)] _ SG (fun b=>O b\/b=H+1+1+1) W (Tryz.call195)
  have J5:=ak (And.intro kJ (And.intro rY SG));have hmf:∀(fn:Fn)(first cap:Array Value)(w:World),(Instr.makeFunc fn first cap).run Tryz.prog w=.ok (.func fn first cap) w:=fun _ _ _ _=>rfl
  generalize Tm.ap (Tm.oI 262145) m ss us 0=r at *
  clear pK ee SG fU kJ rY pA;go_wp2_with fail;refine C6.mono ?_;rintro e w7 ⟨rfl,cm⟩;have cW:=bj.and cm;have Ow:=Pd.kept cm;have XN:=sf.kept cm;have hu8:=JK.kept cm;have oF:=fD.kept cm;have hzz:=cW.size
  have R3:=RU w7 (fun W wk hu hwk ee hW=>by
    have wkO:∀ b,b<W.heap.size->((O b\/b=H+1+1+1)\/(w7.heap.size<=b/\b<w7.heap.size+3))->(O b\/H<=b):=fun b _ e=>by rcases e with(e |e)|e;exact .inl e;all_goals(right;omega)
    have h:=MA W wk (fun b=>(O b\/b=H+1+1+1)\/(w7.heap.size<=b/\b<w7.heap.size+3)) (.inr (by omega)) (fun b e=>by rcases e with(e |e)|e;(have:=HO.out b e;omega);all_goals omega) hW (hu8.kept hu) (Ow.kept hu) (XN.kept hu) (by omega)
      (aw.weaken wkO _ _ ((di.on cW).on hu)) (ai.weaken wkO _ _ _ _ ((fU.on cW).on hu)) (ai.weaken wkO _ _ _ _ ((ic.on cW).on hu))
    exact h)
  clear MA RU;go_wp2_with fail
  (with_reducible refine R3.mono ?_);rintro e w9 ⟨k9,i9,n9,a9,lI,dQ,rfl,oK,bU⟩;have gM:=oF.kept bU;clear oF fD;have ah:=gM.set (d0:=.int .i64 k9) (d1:=.string (B n9)) (d2:=.int .i64 i9) (d3:=.slice a9 lI dQ);obtain⟨y0,y1,y2,y3⟩:=gM.cells;obtain⟨z0,z1,z2,z3⟩:=gM.aq;obtain⟨e0,e1,e2,e3⟩:=ah.1.cells;have dJ:=ak (And.intro e0 (And.intro e1 (And.intro e2 (And.intro e3 ah.2))));have Gh:=gM.lt;clear e0 e1 e2 e3 ah;go_wp2_with fail;obtain⟨e0,e1,e2,e3,ah⟩:=dJ.out;refine bodyPost_ret (v:=.tuple #[.agg #[.int .i64 k9,.string (B n9),.int .i64 i9,.slice a9 lI dQ],.int .i64 r.e]) ?_ rfl ?_
  ·simp[results,Tryz.f169,go_sem,e0,e1,e2,e3]
  refine⟨k9,i9,n9,a9,lI,dQ,by rw[J5.out.1],?_,((HU.out.and cW).and bU).trans ah (fun b hb e=>by have:=HH.out;omega)⟩
  have KT:X=r.t:=by
    by_cases h0:r.e=0
    ·rw[J5.out.2.1,if_pos (by rw[J5.out.1];exact h0)]
    rw[J5.out.2.1,if_neg (by rw[J5.out.1];exact h0),J5.out.2.2 h0]
  rw[KT];exact aw.weaken (fun b _ e=>.inl e) _ _ (aw.ag ah (fun b e=>.inr e) _ _ oK)
end Go.Proofs.YthgmimncdjhgnaaGreatDoor
namespace Go.LF
namespace Tm
theorem RG(t:Tm):(er t).wt<=t.wt+4 * t.size/\(er t).Vp.length+Sm.eV (er t).args+1<=t.wt+4 * t.size:=by
  induction t using ind with
  |h k n i l ih=>
   rw[wK];split
   ·match l,ih with
    | [],_=>rw[OR]<;>simp[Sm.eV]<;>try omega
    | [a],_=>rw[OR]<;>simp[Sm.eV]<;>try omega
    |a :: b :: rest,ih=>
     have h1:=(ih a (by simp)).1;have h2:=(ih b (by simp)).2;rw[OR];simp only[Sm.cU,Sm.jK,Sm.VM,Sm.eV,cU,eV,aM,aD];omega
   split<;>simp[Sm.eV]<;>omega
end Tm
end Go.LF
namespace Go.LF.Tm
theorem od{n:List UInt8}(h:isName n=true):n.length<=64:=by
  unfold isName at h;simp only[Bool.and_eq_true,decide_eq_true_eq]at h;exact h.1.1.1.2
theorem pJ{n:List UInt8}{i:Int}{l:List Tm}{k:Nat}(h:bound n i l k=true):n.length<=64:=by
  unfold bound at h;simp only[Bool.and_eq_true,Bool.or_eq_true,beq_iff_eq]at h;rcases h.2 with(h |h)|h
  ·rw[h];simp
  ·rw[h];simp
  exact od h
theorem vf{l:List Tm}(h:∀ t∈l,t.wt<=65 * t.size):eV l<=65 * aD l:=by
  induction l with
  |nil=>simp[eV]
  |cons t ts ih=>
   have h1:=h t (by simp);have h2:=ih (fun a ha=>h a (by simp[ha]));simp only[eV,aD];omega
theorem Ej(t:Tm):t.isObj=true->t.wt<=65 * t.size:=by
  induction t using ind with
  |h k n i l ih=>
   intro h;obtain⟨h1,_⟩:=lK h;have h2:=vf (fun u hu=>ih u hu (h1 u hu))
   have hn:n.length<=64:=by
     rw[isObj]at h;split at h
     ·simp only[Bool.and_eq_true]at h;exact pJ h.1
     split at h
     ·simp only[Bool.and_eq_true]at h;exact od h.1.1
     split at h
     ·simp only[Bool.and_eq_true,beq_iff_eq]at h;rw[h.1.1.1];simp
     split at h
     ·simp only[Bool.and_eq_true,beq_iff_eq]at h;rw[h.1.1.1];simp
     cases h
   rw[cU,aM];omega
theorem Dd(t:Tm):t.aC=true->t.wt<=65 * t.size:=by
  induction t using ind with
  |h k n i l ih=>
   intro h;rw[aC,isAtom]at h;simp only[Bool.or_eq_true,Bool.and_eq_true,beq_iff_eq]at h;rw[cU,aM];rcases h with h |h
   ·have h3:=h.2.2;rw[cM,List.all_eq_true]at h3;have h2:=vf (fun u hu=>Ej u (h3 u hu));have:=od h.2.1.1;omega
   have h3:=h.2.2;rw[mB,List.all_eq_true]at h3;have h2:=vf (fun u hu=>ih u hu (h3 u hu));have:=pJ h.2.1;omega
theorem Ld(t:Tm):t.aI=true->t.wt<=65 * t.size:=by
  induction t using ind with
  |h k n i l ih=>
   intro h;unfold aI at h;split at h
   ·rename_i a b e;cases e
    simp only[Bool.and_eq_true,beq_iff_eq]at h;have h1:=Dd _ h.2.2.1;have h2:=ih b (by simp) h.2.2.2;have:=pJ h.2.1;simp only[cU,aM,eV,aD];omega
   rename_i e;cases e
   simp only[Bool.and_eq_true,beq_iff_eq,List.isEmpty_iff]at h;rw[h.2.1,h.2.2.2];simp[eV,aD]
theorem iM{t:Tm}(h:t.wf=0):t.wt<=266240:=by
  have hs:=(dz h).2.1
  have:t.wt<=65 * t.size:=by
    rcases(dz h).1 with h1 |h1 |h1
    ·exact Ej t h1
    ·exact Dd t h1
    exact Ld t h1
  omega
end Go.LF.Tm
namespace Go.LF
abbrev wC:Tm:=.mk 4 [99] 0 []
abbrev wA:Tm:=.mk 4 [118] 0 [wC]
end Go.LF
