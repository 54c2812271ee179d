/- Chapter 28: clone: the program's. -/
import Derived.Maps.RangeWalk
import Derived.Test.YtfamifgchgolpaaGreatVq
import Derived.Test.YtfamifgchgolpaaGreatSe
set_option linter.unusedVariables false
set_option linter.unusedSimpArgs false
set_option maxRecDepth 100000
set_option maxHeartbeats 16000000
namespace Go.Proofs.YtfamifgchgolpaaGreat
open Go Go.RowKit Go.Sort Go.Shelf Go.Maps
namespace Tx
open Sw Mm Pl
theorem eltF:Elt Tryz.prog intE 1 24 3:=⟨fun _=>rfl,by decide,fun x v hv=>by
 simp only[intE,List.mem_singleton]at hv
 subst hv
 rfl,Tryz.underlying24,by
 obtain⟨i,h1,h2,h3,h4⟩:=info_parts intInfo
 exact⟨i,_,h1,h2,h3,by omega,rfl⟩⟩
theorem wpList_copy_sls {P:Program} {α:Type} [Inhabited α] {enc:α→List Value} {k:Nat} {t T:TypeId} {ops:Array Oper} {rest:List Oper} {o:Oper} {a:Act} {Q:Exit→Act→World→Prop}(E:Elt P enc k t T)(w:World)(hgd:o.guard=none)(s x:Operand)(ho:o.op= .call { callee:= .builtin .append,args:=#[s,x],argTypes:=#[t,t]})(hv:a.eval s= .slice none 0 0)
 (A:Option Addr) (m c:Nat) (ys:List α) (hx:a.eval x= .slice A m c) (hs:Sls enc k w A m ys) (h63:m≤1048576)
 (h:∀A' c' w',(∃b,w'.ownsRow b T k (.slice A' m c') m (ys.flatMap enc))→Below w.heap.size w w'→wpList P ops Q rest (a.put o.dst (.slice A' m c')) w'):wpList P ops Q (o::rest) a w:=by
 refine wpList_append_sls E w hgd s x ho w.heap.size (.slice none 0 0) [] hv (World.ownsRow_nil _ _ _ _) A m c ys hx hs (by simp;omega) (Nat.le_refl _) ?_
 intro v' w' h1 h2 _
 rw[List.nil_append,hs.len]at h1
 obtain⟨A',c',rfl⟩:=own_slice h1
 exact h A' c' w' ⟨_,h1⟩ ((Below.refl w.heap.size w).grown h2 (Nat.le_refl _) (fun k e=>by simp[Value.ownBlock]at e))
theorem wpList_copyF {ops:Array Oper} {rest:List Oper} {o:Oper} {a:Act} {Q:Exit→Act→World→Prop}(w:World)(hgd:o.guard=none)(s x:Operand)(ho:o.op= .call { callee:= .builtin .append,args:=#[s,x],argTypes:=#[24,24]})(hv:a.eval s= .slice none 0 0)
 (A:Option Addr) (m c:Nat) (ys:List Int) (hx:a.eval x= .slice A m c) (hs:IntS w A m ys) (h63:m≤17592186044416)
 (h:∀A' c' w',(∃b,w.heap.size≤b∧w'.ownsRow b 3 1 (.slice A' m c') m (ys.flatMap intE))→Below w.heap.size w w'→wpList Tryz.prog ops Q rest (a.put o.dst (.slice A' m c')) w'):wpList Tryz.prog ops Q (o::rest) a w:=by
 rcases Nat.eq_zero_or_pos m with hm|hm
 ·refine wpList_append_sls eltF w hgd s x ho w.heap.size (.slice none 0 0) [] hv (World.ownsRow_nil _ _ _ _) A m c ys hx hs (by simp;omega) (Nat.le_refl _) ?_
  intro v' w' h1 h2 _
  rw[List.nil_append,hs.len]at h1
  obtain⟨A',c',rfl⟩:=own_slice h1
  exact h A' c' w' ⟨_,Nat.le_refl _,h1⟩ ((Below.refl w.heap.size w).grown h2 (Nat.le_refl _) (fun k e=>by simp[Value.ownBlock]at e))
 ·obtain⟨b,off,rfl⟩:=hs.addr hm
  obtain⟨i,hi,hz,hsz,hby⟩:=info_parts intInfo
  have hl:(ys.flatMap intE).length=m*1:=by rw[Sk.fm_len intE 1 (fun _=>rfl),hs.len]
  refine wpList_append_lies w hgd s x 24 ho w.heap.size 3 i (.int .i64 0) 1 8 Tryz.underlying24 hi hz hsz hby rfl (by decide) (.slice none 0 0) 0 [] hv (World.ownsRow_nil _ _ _ _) ⟨b,off,none⟩ m c (ys.flatMap intE) hx hl (Sls.news (enc:=intE) (k:=1) (fun _=>rfl) hs hm) (fm_one (fun x=>eltF.one x) ys) hm (by unfold maxLen;omega) (by omega) (Nat.le_refl _) w.heap.size rfl ?_
  intro g cap w' h2 h3 _ _
  simp only[Nat.zero_add,List.nil_append]at h2 ⊢
  exact h _ _ w' ⟨_,Nat.le_refl _,h2⟩ ((Below.refl w.heap.size w).grown h3 (Nat.le_refl _) (fun k e=>by simp[Value.ownBlock]at e))
theorem own_ge {w:World} {base n c m s:Nat} {e:TypeId} {A:Option Addr} {xs:List Value}(h:w.ownsRow base e s (.slice A n c) m xs) {a:Addr}(ha:A=some a):base≤a.block:=by
 subst ha
 rcases h.2 with⟨h,_⟩|⟨g',cap,cur,h,h2,_⟩
 ·cases h
 ·injection h with h1
  injection h1 with h1
  subst h1
  exact h2
def FreeNew(w:World)(v:CplV):Prop:=∀a,v.A=some a→w.heap.size≤a.block
theorem zsS:(Tryz.prog.info? 28).map (·.size)=some 1:=by kernel_rfl
theorem zsT:(Tryz.prog.info? 27).map (·.size)=some 1:=by kernel_rfl
theorem zsF:(Tryz.prog.info? 24).map (·.size)=some 1:=by kernel_rfl
def SptOwn(A:Option Addr)(n c:Nat)(xs:List Spt)(w:World):Prop:=∃b,w.ownsRow b 97 2 (.slice A n c) n (xs.flatMap sptE)
theorem Stb.sptOwn(A:Option Addr)(n c:Nat)(xs:List Spt):Stb (SptOwn A n c xs):=⟨fun⟨b,h⟩ hb=>⟨b,owns_keep h hb⟩,fun⟨b,h⟩ hB h1 _ hg=>⟨b,h.kept hg (.inr (row_ne_blk h hB h1.symm))⟩⟩
def TclRow(A:Option Addr)(n c:Nat)(xs:List TCl)(w:World):Prop:=∃b,w.ownsRow b 85 6 (.slice A n c) n (xs.flatMap tclE)
theorem Stb.tclRow(A:Option Addr)(n c:Nat)(xs:List TCl):Stb (TclRow A n c xs):=⟨fun⟨b,h⟩ hb=>⟨b,owns_keep h hb⟩,fun⟨b,h⟩ hB _ h2 hg=>⟨b,h.kept hg (.inr (row_ne_blk h hB h2.symm))⟩⟩
structure OwnK(k:Nat)(v:CplV)(c:Cpl)(w:World):Prop where
 m0:0<k→MsgOwn w v.a.a c.a.asked
 m1:1<k→MsgOwn w v.a.l c.a.last
 m2:2<k→MsgOwn w v.a.r c.a.reply
 m3:3<k→MsgOwn w v.b.a c.b.asked
 m4:4<k→MsgOwn w v.b.l c.b.last
 m5:5<k→MsgOwn w v.b.r c.b.reply
theorem Stb.ownK(k:Nat)(v:CplV)(c:Cpl):Stb (OwnK k v c):=⟨fun h hb=>⟨fun x=>(h.m0 x).keep hb,fun x=>(h.m1 x).keep hb,fun x=>(h.m2 x).keep hb,fun x=>(h.m3 x).keep hb,fun x=>(h.m4 x).keep hb,fun x=>(h.m5 x).keep hb⟩,fun h hB h1 _ hg=>⟨fun x=>(h.m0 x).put hB h1 hg,fun x=>(h.m1 x).put hB h1 hg,fun x=>(h.m2 x).put hB h1 hg,fun x=>(h.m3 x).put hB h1 hg,fun x=>(h.m4 x).put hB h1 hg,fun x=>(h.m5 x).put hB h1 hg⟩⟩
structure Own5(v:CplV)(c:Cpl)(w:World):Prop where
 ca:TclOwn v.a.cA v.a.cn v.a.cc c.a.cells w∧TclOwn v.b.cA v.b.cn v.b.cc c.b.cells w
 l:TclOwn v.l.A v.l.n v.l.c c.left.cells w
 r:TclOwn v.r.A v.r.n v.r.c c.right.cells w
 k:OwnK 6 v c w
theorem Stb.tclOwn(A:Option Addr)(n c:Nat)(xs:List TCl):Stb (TclOwn A n c xs):=⟨fun⟨⟨b,h⟩,hl⟩ hb=>⟨⟨b,owns_keep h hb⟩,hl⟩,fun⟨⟨b,h⟩,hl⟩ hB _ h2 hg=>⟨⟨b,h.kept hg (.inr (row_ne_blk h hB h2.symm))⟩,hl⟩⟩
theorem Stb.own5(v:CplV)(c:Cpl):Stb (Own5 v c):=⟨fun h hb=>⟨⟨(Stb.tclOwn ..).keep h.ca.1 hb,(Stb.tclOwn ..).keep h.ca.2 hb⟩,(Stb.tclOwn ..).keep h.l hb,(Stb.tclOwn ..).keep h.r hb,(Stb.ownK ..).keep h.k hb⟩,fun h hB h1 h2 hg=>⟨⟨(Stb.tclOwn ..).put h.ca.1 hB h1 h2 hg,(Stb.tclOwn ..).put h.ca.2 hB h1 h2 hg⟩,(Stb.tclOwn ..).put h.l hB h1 h2 hg,(Stb.tclOwn ..).put h.r hB h1 h2 hg,(Stb.ownK ..).put h.k hB h1 h2 hg⟩⟩
theorem Own5.a {v:CplV} {c:Cpl} {w:World}(h:Own5 v c w):EdOwn w v.a c.a:=⟨h.ca.1.1,h.ca.1.2,h.k.m0 (by omega),h.k.m1 (by omega),h.k.m2 (by omega)⟩
theorem Own5.b {v:CplV} {c:Cpl} {w:World}(h:Own5 v c w):EdOwn w v.b c.b:=⟨h.ca.2.1,h.ca.2.2,h.k.m3 (by omega),h.k.m4 (by omega),h.k.m5 (by omega)⟩
structure MsgSm(m:Msg):Prop where
 s:m.spots.length≤1048576
 o:m.old.length≤1048576
structure EdSm(e:Ed):Prop where
 c:e.cells.length≤1048576
 a:MsgSm e.asked
 l:MsgSm e.last
 r:MsgSm e.reply
structure CplLen(c:Cpl):Prop where
 a:EdSm c.a
 b:EdSm c.b
 l:c.left.cells.length≤1048576
 r:c.right.cells.length≤1048576
 f:c.free.length≤17592186044416
theorem edSm_of {e:Ed}(h:EdOk e):EdSm e:=by
 obtain⟨h1,h2,h3,h4⟩:=h.len
 exact⟨by omega,⟨by omega,by omega⟩,⟨by omega,by omega⟩,⟨by omega,by omega⟩⟩
theorem cplLen_of {c:Cpl}(h:Idle c.a c.b c.left c.right)(hf:c.free.length≤17592186044416):CplLen c:=⟨edSm_of h.fa.ed,edSm_of h.fb.ed,by have:=h.fa.tab.size;omega,by have:=h.fb.tab.size;omega,hf⟩
theorem cloneP_any(c:Cpl)(v:CplV)(w:World)(h:CplIs w v c)(hl:CplLen c):Calls Tryz.prog 103 #[.agg (cplA c v)] w fun r w'=>∃v',r= .returned (.agg (cplA c v'))∧(CplOwn w' v' c∧FreeNew w v')∧Below w.heap.size w w':=by
 have I:=Zh (Mem.start w)
 obtain⟨F0,q_,J,gY⟩:∃F:World→Prop,Stb F∧Hid (F w)∧Hid (∀W,F W→CplY w v c W):=⟨_,Stb.cplY w v c,CplY.of_is h w,fun _ h=>h⟩
 have uC:=Tryz.underlying70
 have uS:=Tryz.underlying28
 have uL:=Tryz.underlying27
 have hfr:=fun W (hb:Below w.heap.size w W)=>h.f.keep hb
 have hfc:=h.fc
 refine zh6 ?_ h hl uC uS uL hfr;clear h hl uC uS uL hfr;intro h hl uC uS uL hfr
 go_enter Tryz.func103,Tryz.ntmps103
 have mk1:Unit:=()
 have mk2:Unit:=()
 go_upto_region 1 with(first|go_skip|(clear mk1;refine q_.b I J 70 ?_;clear I J;intro gc w1 I J)|(clear mk2;refine q_.a I J cpInfo ?_;clear I J;intro g2 w1 I J)|fail)
 have HM5:=Zh (I.alloc #[.pointer (some ⟨gc,6,none⟩),.pointer (some ⟨gc,14,none⟩),.pointer (some ⟨gc,21,none⟩),.pointer (some ⟨gc,34,none⟩),.pointer (some ⟨gc,42,none⟩),.pointer (some ⟨gc,49,none⟩)] 174)
 have hF5:=Zh (q_.keep J (ball _ (.cells #[.pointer (some ⟨gc,6,none⟩),.pointer (some ⟨gc,14,none⟩),.pointer (some ⟨gc,21,none⟩),.pointer (some ⟨gc,34,none⟩),.pointer (some ⟨gc,42,none⟩),.pointer (some ⟨gc,49,none⟩)] 174)))
 go_upto_region 2 with fail
 clear I J
 obtain⟨pb,hpb⟩:∃pb,pb=w1.heap.size:=⟨_,rfl⟩
 rw[←hpb]at HM5 ⊢
 clear hpb
 generalize w1.alloc (.cells #[.pointer (some ⟨gc,6,none⟩),.pointer (some ⟨gc,14,none⟩),.pointer (some ⟨gc,21,none⟩),.pointer (some ⟨gc,34,none⟩),.pointer (some ⟨gc,42,none⟩),.pointer (some ⟨gc,49,none⟩)] 174)=w5 at*
 have I:=HM5
 have J:=hF5
 clear HM5 hF5
 have gY0:=Zh (gY _ J)
 clear J q_ gY F0
 replace I:Hid (Mem w w5 [(pb,#[.pointer (some ⟨gc,6,none⟩),.pointer (some ⟨gc,14,none⟩),.pointer (some ⟨gc,21,none⟩),.pointer (some ⟨gc,34,none⟩),.pointer (some ⟨gc,42,none⟩),.pointer (some ⟨gc,49,none⟩)],174),(g2,cplA cpl0 cplV0,70),(gc,cplA c v,70)]):=I
 go_wp2_with fail
 go_loopw[4,19] (fun _ i wr=>Hid (∃(k:Nat) (v1:CplV),k≤6∧i= .int .i64 k∧Mem w wr [(pb,#[.pointer (some ⟨gc,6,none⟩),.pointer (some ⟨gc,14,none⟩),.pointer (some ⟨gc,21,none⟩),.pointer (some ⟨gc,34,none⟩),.pointer (some ⟨gc,42,none⟩),.pointer (some ⟨gc,49,none⟩)],174),(g2,cplA cpl0 cplV0,70),(gc,cplA c v1,70)]∧CplY w v1 c wr∧OwnK k v1 c wr∧v1.A=v.A∧v1.nf=v.nf∧v1.cf=v.cf)) (fun _ i _=>6-(intOf i).toNat)
 case atStart=>exact Zh ⟨0,v,by omega,rfl,I.out,gY0.out,⟨fun h=>absurd h (by omega),fun h=>absurd h (by omega),fun h=>absurd h (by omega),fun h=>absurd h (by omega),fun h=>absurd h (by omega),fun h=>absurd h (by omega)⟩,rfl,rfl,rfl⟩
 case round=>
  clear I gY0
  obtain⟨k,v1,hk,rfl,I,gY0,gK0,eA,eN,eC⟩:=hrel.out
  clear hrel
  replace I:=Zh I
  obtain⟨F0,q_,J,gY,gK⟩:∃F:World→Prop,Stb F∧Hid (F wr)∧Hid (∀W,F W→CplY w v1 c W)∧Hid (∀W,F W→OwnK k v1 c W):=⟨_,(Stb.cplY w v1 c).and (Stb.ownK k v1 c),⟨gY0,gK0⟩,fun _ h=>h.1,fun _ h=>h.2⟩
  clear gY0 gK0
  refine zh3 ?_ eA eN eC;clear eA eN eC;intro eA eN eC
  rcases(by omega:k=0∨k=1∨k=2∨k=3∨k=4∨k=5∨k=6)with rfl|rfl|rfl|rfl|rfl|rfl|rfl
  ·have pk:=Zc I 0 0 (.pointer (some ⟨gc,6,none⟩))
   have hms:=(gY _ J).a.asked.is I.below
   have l1:=hms.spots.len
   have l2:=hms.old.len
   have s1:=hl.a.a.s
   have s2:=hl.a.a.o
   clear hms
   go_upto_region 4 with fail
   clear pk
   replace J:=Zh (q_.keep J ((Below.refl _ _).drew))
   replace I:=Zh (I.keep ((Below.refl _ _).drew))
   have HMs:=Zh I.out
   refine wp_region_two (fun w'=>Mem _ w' _) 14 [(0,1),(1,1),(2,1),(3,1),(4,1),(5,2),(7,1),(8,1),(9,1),(10,2),(6,0),(11,0),(12,1),(13,1),(14,0),(15,1),(16,1),(17,0)] (by kernel_rfl) (by kernel_rfl) HMs.out ?_
   clear HMs
   generalize World.drew _=wd at*
   repeat(refine p2Q ?_;try go_frame)
   refine p2Take (by rfl) (yc 2 11 (.slice v1.a.a.sA v1.a.a.sn v1.a.a.sc) Tryz.underlying28) ?_
   try go_frame
   repeat(refine p2Q ?_;try go_frame)
   refine p2Take (by rfl) (yc 2 12 (.slice v1.a.a.oA v1.a.a.on v1.a.a.oc) Tryz.underlying28) ?_
   try go_frame
   repeat(refine p2Q ?_;try go_frame)
   refine p2Step rfl rfl fun K hK=> ?_
   go_wp2_with(first|(at_builtin;refine wpList_copy_sls eltS _ rfl _ _ rfl rfl _ _ _ _ rfl (((gY _ J).a.asked.is I.below).spots) (by omega) ?_;intro A1 c1 w3 hO p_)|fail)
   refine hK _ _ (fun _=>I.keep p_) fun hS_=> ?_
   clear hK K hS_
   try go_frame
   replace I:=Zm I p_
   replace J:=q_.z J p_
   clear p_
   refine sA q_ J (Stb.sptOwn A1 v1.a.a.sn c1 c.a.asked.spots) hO ?_
   clear q_ J hO
   intro F1 q_ J hU gS
   replace gY:=Zu gY hU
   replace gK:=Zu gK hU
   clear hU
   refine p2Step rfl rfl fun K hK=> ?_
   go_wp2_with(first|(at_builtin;refine wpList_copy_sls eltS _ rfl _ _ rfl rfl _ _ _ _ rfl (((gY _ J).a.asked.is I.below).old) (by omega) ?_;intro A2 c2 w3 hO p_)|fail)
   refine hK _ _ (fun _=>I.keep p_) fun hS_=> ?_
   clear hK K hS_
   try go_frame
   replace I:=Zm I p_
   replace J:=q_.z J p_
   clear p_
   refine sA q_ J (Stb.sptOwn A2 v1.a.a.on c2 c.a.asked.old) hO ?_
   clear q_ J hO
   intro F2 q_ J hU gO
   replace gY:=Zu gY hU
   replace gK:=Zu gK hU
   replace gS:=Zu gS hU
   clear hU
   repeat(refine p2Q ?_;try go_frame)
   refine p2Step rfl rfl fun K hK=> ?_
   go_wp2_with(first|(refine q_.m 2 I J 11 (cplA c { v1 with a:= { v1.a with a:= { v1.a.a with sA:=A1,sc:=c1}}}) ?_;clear I J;intro w4 I J;simp only[List.set]at I)|fail)
   refine hK _ _ (fun h=>absurd h (by decide)) fun hS_=> ?_
   clear hK K hS_
   try go_frame
   repeat(refine p2Q ?_;try go_frame)
   refine p2Step rfl rfl fun K hK=> ?_
   go_wp2_with(first|(refine q_.m 2 I J 12 (cplA c { v1 with a:= { v1.a with a:=⟨A1,v1.a.a.sn,c1,A2,v1.a.a.on,c2⟩}}) ?_;clear I J;intro w4 I J;simp only[List.set]at I)|fail)
   refine hK _ _ (fun h=>absurd h (by decide)) fun hS_=> ?_
   clear hK K hS_
   try go_frame
   refine p2Done ?_
   have h:=gY.out _ J
   have hk:=gK.out _ J
   go_wp2_with fail
   go_roundw
   case rel=>exact Zh ⟨1,{ v1 with a:= { v1.a with a:=⟨A1,v1.a.a.sn,c1,A2,v1.a.a.on,c2⟩}},by omega,by go_num,I.out,⟨⟨h.a.cells,.inl ⟨gS _ J,gO.out _ J,l1,l2⟩,h.a.last,h.a.reply⟩,h.b,h.l,h.r⟩,⟨fun _=>⟨gS _ J,gO.out _ J,l1,l2⟩,fun h=>absurd h (by omega),fun h=>absurd h (by omega),fun h=>absurd h (by omega),fun h=>absurd h (by omega),fun h=>absurd h (by omega)⟩,eA.out,eN.out,eC.out⟩
   case measure=>simp[intOf]
  ·have pk:=Zc I 0 1 (.pointer (some ⟨gc,14,none⟩))
   have hms:=(gY _ J).a.last.is I.below
   have l1:=hms.spots.len
   have l2:=hms.old.len
   have s1:=hl.a.l.s
   have s2:=hl.a.l.o
   clear hms
   go_upto_region 4 with fail
   clear pk
   replace J:=Zh (q_.keep J ((Below.refl _ _).drew))
   replace I:=Zh (I.keep ((Below.refl _ _).drew))
   have HMs:=Zh I.out
   refine wp_region_two (fun w'=>Mem _ w' _) 14 [(0,1),(1,1),(2,1),(3,1),(4,1),(5,2),(7,1),(8,1),(9,1),(10,2),(6,0),(11,0),(12,1),(13,1),(14,0),(15,1),(16,1),(17,0)] (by kernel_rfl) (by kernel_rfl) HMs.out ?_
   clear HMs
   generalize World.drew _=wd at*
   repeat(refine p2Q ?_;try go_frame)
   refine p2Take (by rfl) (yc 2 19 (.slice v1.a.l.sA v1.a.l.sn v1.a.l.sc) Tryz.underlying28) ?_
   try go_frame
   repeat(refine p2Q ?_;try go_frame)
   refine p2Take (by rfl) (yc 2 20 (.slice v1.a.l.oA v1.a.l.on v1.a.l.oc) Tryz.underlying28) ?_
   try go_frame
   repeat(refine p2Q ?_;try go_frame)
   refine p2Step rfl rfl fun K hK=> ?_
   go_wp2_with(first|(at_builtin;refine wpList_copy_sls eltS _ rfl _ _ rfl rfl _ _ _ _ rfl (((gY _ J).a.last.is I.below).spots) (by omega) ?_;intro A1 c1 w3 hO p_)|fail)
   refine hK _ _ (fun _=>I.keep p_) fun hS_=> ?_
   clear hK K hS_
   try go_frame
   replace I:=Zm I p_
   replace J:=q_.z J p_
   clear p_
   refine sA q_ J (Stb.sptOwn A1 v1.a.l.sn c1 c.a.last.spots) hO ?_
   clear q_ J hO
   intro F1 q_ J hU gS
   replace gY:=Zu gY hU
   replace gK:=Zu gK hU
   clear hU
   refine p2Step rfl rfl fun K hK=> ?_
   go_wp2_with(first|(at_builtin;refine wpList_copy_sls eltS _ rfl _ _ rfl rfl _ _ _ _ rfl (((gY _ J).a.last.is I.below).old) (by omega) ?_;intro A2 c2 w3 hO p_)|fail)
   refine hK _ _ (fun _=>I.keep p_) fun hS_=> ?_
   clear hK K hS_
   try go_frame
   replace I:=Zm I p_
   replace J:=q_.z J p_
   clear p_
   refine sA q_ J (Stb.sptOwn A2 v1.a.l.on c2 c.a.last.old) hO ?_
   clear q_ J hO
   intro F2 q_ J hU gO
   replace gY:=Zu gY hU
   replace gK:=Zu gK hU
   replace gS:=Zu gS hU
   clear hU
   repeat(refine p2Q ?_;try go_frame)
   refine p2Step rfl rfl fun K hK=> ?_
   go_wp2_with(first|(refine q_.m 2 I J 19 (cplA c { v1 with a:= { v1.a with l:= { v1.a.l with sA:=A1,sc:=c1}}}) ?_;clear I J;intro w4 I J;simp only[List.set]at I)|fail)
   refine hK _ _ (fun h=>absurd h (by decide)) fun hS_=> ?_
   clear hK K hS_
   try go_frame
   repeat(refine p2Q ?_;try go_frame)
   refine p2Step rfl rfl fun K hK=> ?_
   go_wp2_with(first|(refine q_.m 2 I J 20 (cplA c { v1 with a:= { v1.a with l:=⟨A1,v1.a.l.sn,c1,A2,v1.a.l.on,c2⟩}}) ?_;clear I J;intro w4 I J;simp only[List.set]at I)|fail)
   refine hK _ _ (fun h=>absurd h (by decide)) fun hS_=> ?_
   clear hK K hS_
   try go_frame
   refine p2Done ?_
   have h:=gY.out _ J
   have hk:=gK.out _ J
   go_wp2_with fail
   go_roundw
   case rel=>exact Zh ⟨2,{ v1 with a:= { v1.a with l:=⟨A1,v1.a.l.sn,c1,A2,v1.a.l.on,c2⟩}},by omega,by go_num,I.out,⟨⟨h.a.cells,h.a.asked,.inl ⟨gS _ J,gO.out _ J,l1,l2⟩,h.a.reply⟩,h.b,h.l,h.r⟩,⟨fun _=>hk.m0 (by omega),fun _=>⟨gS _ J,gO.out _ J,l1,l2⟩,fun h=>absurd h (by omega),fun h=>absurd h (by omega),fun h=>absurd h (by omega),fun h=>absurd h (by omega)⟩,eA.out,eN.out,eC.out⟩
   case measure=>simp[intOf]
  ·have pk:=Zc I 0 2 (.pointer (some ⟨gc,21,none⟩))
   have hms:=(gY _ J).a.reply.is I.below
   have l1:=hms.spots.len
   have l2:=hms.old.len
   have s1:=hl.a.r.s
   have s2:=hl.a.r.o
   clear hms
   go_upto_region 4 with fail
   clear pk
   replace J:=Zh (q_.keep J ((Below.refl _ _).drew))
   replace I:=Zh (I.keep ((Below.refl _ _).drew))
   have HMs:=Zh I.out
   refine wp_region_two (fun w'=>Mem _ w' _) 14 [(0,1),(1,1),(2,1),(3,1),(4,1),(5,2),(7,1),(8,1),(9,1),(10,2),(6,0),(11,0),(12,1),(13,1),(14,0),(15,1),(16,1),(17,0)] (by kernel_rfl) (by kernel_rfl) HMs.out ?_
   clear HMs
   generalize World.drew _=wd at*
   repeat(refine p2Q ?_;try go_frame)
   refine p2Take (by rfl) (yc 2 26 (.slice v1.a.r.sA v1.a.r.sn v1.a.r.sc) Tryz.underlying28) ?_
   try go_frame
   repeat(refine p2Q ?_;try go_frame)
   refine p2Take (by rfl) (yc 2 27 (.slice v1.a.r.oA v1.a.r.on v1.a.r.oc) Tryz.underlying28) ?_
   try go_frame
   repeat(refine p2Q ?_;try go_frame)
   refine p2Step rfl rfl fun K hK=> ?_
   go_wp2_with(first|(at_builtin;refine wpList_copy_sls eltS _ rfl _ _ rfl rfl _ _ _ _ rfl (((gY _ J).a.reply.is I.below).spots) (by omega) ?_;intro A1 c1 w3 hO p_)|fail)
   refine hK _ _ (fun _=>I.keep p_) fun hS_=> ?_
   clear hK K hS_
   try go_frame
   replace I:=Zm I p_
   replace J:=q_.z J p_
   clear p_
   refine sA q_ J (Stb.sptOwn A1 v1.a.r.sn c1 c.a.reply.spots) hO ?_
   clear q_ J hO
   intro F1 q_ J hU gS
   replace gY:=Zu gY hU
   replace gK:=Zu gK hU
   clear hU
   refine p2Step rfl rfl fun K hK=> ?_
   go_wp2_with(first|(at_builtin;refine wpList_copy_sls eltS _ rfl _ _ rfl rfl _ _ _ _ rfl (((gY _ J).a.reply.is I.below).old) (by omega) ?_;intro A2 c2 w3 hO p_)|fail)
   refine hK _ _ (fun _=>I.keep p_) fun hS_=> ?_
   clear hK K hS_
   try go_frame
   replace I:=Zm I p_
   replace J:=q_.z J p_
   clear p_
   refine sA q_ J (Stb.sptOwn A2 v1.a.r.on c2 c.a.reply.old) hO ?_
   clear q_ J hO
   intro F2 q_ J hU gO
   replace gY:=Zu gY hU
   replace gK:=Zu gK hU
   replace gS:=Zu gS hU
   clear hU
   repeat(refine p2Q ?_;try go_frame)
   refine p2Step rfl rfl fun K hK=> ?_
   go_wp2_with(first|(refine q_.m 2 I J 26 (cplA c { v1 with a:= { v1.a with r:= { v1.a.r with sA:=A1,sc:=c1}}}) ?_;clear I J;intro w4 I J;simp only[List.set]at I)|fail)
   refine hK _ _ (fun h=>absurd h (by decide)) fun hS_=> ?_
   clear hK K hS_
   try go_frame
   repeat(refine p2Q ?_;try go_frame)
   refine p2Step rfl rfl fun K hK=> ?_
   go_wp2_with(first|(refine q_.m 2 I J 27 (cplA c { v1 with a:= { v1.a with r:=⟨A1,v1.a.r.sn,c1,A2,v1.a.r.on,c2⟩}}) ?_;clear I J;intro w4 I J;simp only[List.set]at I)|fail)
   refine hK _ _ (fun h=>absurd h (by decide)) fun hS_=> ?_
   clear hK K hS_
   try go_frame
   refine p2Done ?_
   have h:=gY.out _ J
   have hk:=gK.out _ J
   go_wp2_with fail
   go_roundw
   case rel=>exact Zh ⟨3,{ v1 with a:= { v1.a with r:=⟨A1,v1.a.r.sn,c1,A2,v1.a.r.on,c2⟩}},by omega,by go_num,I.out,⟨⟨h.a.cells,h.a.asked,h.a.last,.inl ⟨gS _ J,gO.out _ J,l1,l2⟩⟩,h.b,h.l,h.r⟩,⟨fun _=>hk.m0 (by omega),fun _=>hk.m1 (by omega),fun _=>⟨gS _ J,gO.out _ J,l1,l2⟩,fun h=>absurd h (by omega),fun h=>absurd h (by omega),fun h=>absurd h (by omega)⟩,eA.out,eN.out,eC.out⟩
   case measure=>simp[intOf]
  ·have pk:=Zc I 0 3 (.pointer (some ⟨gc,34,none⟩))
   have hms:=(gY _ J).b.asked.is I.below
   have l1:=hms.spots.len
   have l2:=hms.old.len
   have s1:=hl.b.a.s
   have s2:=hl.b.a.o
   clear hms
   go_upto_region 4 with fail
   clear pk
   replace J:=Zh (q_.keep J ((Below.refl _ _).drew))
   replace I:=Zh (I.keep ((Below.refl _ _).drew))
   have HMs:=Zh I.out
   refine wp_region_two (fun w'=>Mem _ w' _) 14 [(0,1),(1,1),(2,1),(3,1),(4,1),(5,2),(7,1),(8,1),(9,1),(10,2),(6,0),(11,0),(12,1),(13,1),(14,0),(15,1),(16,1),(17,0)] (by kernel_rfl) (by kernel_rfl) HMs.out ?_
   clear HMs
   generalize World.drew _=wd at*
   repeat(refine p2Q ?_;try go_frame)
   refine p2Take (by rfl) (yc 2 39 (.slice v1.b.a.sA v1.b.a.sn v1.b.a.sc) Tryz.underlying28) ?_
   try go_frame
   repeat(refine p2Q ?_;try go_frame)
   refine p2Take (by rfl) (yc 2 40 (.slice v1.b.a.oA v1.b.a.on v1.b.a.oc) Tryz.underlying28) ?_
   try go_frame
   repeat(refine p2Q ?_;try go_frame)
   refine p2Step rfl rfl fun K hK=> ?_
   go_wp2_with(first|(at_builtin;refine wpList_copy_sls eltS _ rfl _ _ rfl rfl _ _ _ _ rfl (((gY _ J).b.asked.is I.below).spots) (by omega) ?_;intro A1 c1 w3 hO p_)|fail)
   refine hK _ _ (fun _=>I.keep p_) fun hS_=> ?_
   clear hK K hS_
   try go_frame
   replace I:=Zm I p_
   replace J:=q_.z J p_
   clear p_
   refine sA q_ J (Stb.sptOwn A1 v1.b.a.sn c1 c.b.asked.spots) hO ?_
   clear q_ J hO
   intro F1 q_ J hU gS
   replace gY:=Zu gY hU
   replace gK:=Zu gK hU
   clear hU
   refine p2Step rfl rfl fun K hK=> ?_
   go_wp2_with(first|(at_builtin;refine wpList_copy_sls eltS _ rfl _ _ rfl rfl _ _ _ _ rfl (((gY _ J).b.asked.is I.below).old) (by omega) ?_;intro A2 c2 w3 hO p_)|fail)
   refine hK _ _ (fun _=>I.keep p_) fun hS_=> ?_
   clear hK K hS_
   try go_frame
   replace I:=Zm I p_
   replace J:=q_.z J p_
   clear p_
   refine sA q_ J (Stb.sptOwn A2 v1.b.a.on c2 c.b.asked.old) hO ?_
   clear q_ J hO
   intro F2 q_ J hU gO
   replace gY:=Zu gY hU
   replace gK:=Zu gK hU
   replace gS:=Zu gS hU
   clear hU
   repeat(refine p2Q ?_;try go_frame)
   refine p2Step rfl rfl fun K hK=> ?_
   go_wp2_with(first|(refine q_.m 2 I J 39 (cplA c { v1 with b:= { v1.b with a:= { v1.b.a with sA:=A1,sc:=c1}}}) ?_;clear I J;intro w4 I J;simp only[List.set]at I)|fail)
   refine hK _ _ (fun h=>absurd h (by decide)) fun hS_=> ?_
   clear hK K hS_
   try go_frame
   repeat(refine p2Q ?_;try go_frame)
   refine p2Step rfl rfl fun K hK=> ?_
   go_wp2_with(first|(refine q_.m 2 I J 40 (cplA c { v1 with b:= { v1.b with a:=⟨A1,v1.b.a.sn,c1,A2,v1.b.a.on,c2⟩}}) ?_;clear I J;intro w4 I J;simp only[List.set]at I)|fail)
   refine hK _ _ (fun h=>absurd h (by decide)) fun hS_=> ?_
   clear hK K hS_
   try go_frame
   refine p2Done ?_
   have h:=gY.out _ J
   have hk:=gK.out _ J
   go_wp2_with fail
   go_roundw
   case rel=>exact Zh ⟨4,{ v1 with b:= { v1.b with a:=⟨A1,v1.b.a.sn,c1,A2,v1.b.a.on,c2⟩}},by omega,by go_num,I.out,⟨h.a,⟨h.b.cells,.inl ⟨gS _ J,gO.out _ J,l1,l2⟩,h.b.last,h.b.reply⟩,h.l,h.r⟩,⟨fun _=>hk.m0 (by omega),fun _=>hk.m1 (by omega),fun _=>hk.m2 (by omega),fun _=>⟨gS _ J,gO.out _ J,l1,l2⟩,fun h=>absurd h (by omega),fun h=>absurd h (by omega)⟩,eA.out,eN.out,eC.out⟩
   case measure=>simp[intOf]
  ·have pk:=Zc I 0 4 (.pointer (some ⟨gc,42,none⟩))
   have hms:=(gY _ J).b.last.is I.below
   have l1:=hms.spots.len
   have l2:=hms.old.len
   have s1:=hl.b.l.s
   have s2:=hl.b.l.o
   clear hms
   go_upto_region 4 with fail
   clear pk
   replace J:=Zh (q_.keep J ((Below.refl _ _).drew))
   replace I:=Zh (I.keep ((Below.refl _ _).drew))
   have HMs:=Zh I.out
   refine wp_region_two (fun w'=>Mem _ w' _) 14 [(0,1),(1,1),(2,1),(3,1),(4,1),(5,2),(7,1),(8,1),(9,1),(10,2),(6,0),(11,0),(12,1),(13,1),(14,0),(15,1),(16,1),(17,0)] (by kernel_rfl) (by kernel_rfl) HMs.out ?_
   clear HMs
   generalize World.drew _=wd at*
   repeat(refine p2Q ?_;try go_frame)
   refine p2Take (by rfl) (yc 2 47 (.slice v1.b.l.sA v1.b.l.sn v1.b.l.sc) Tryz.underlying28) ?_
   try go_frame
   repeat(refine p2Q ?_;try go_frame)
   refine p2Take (by rfl) (yc 2 48 (.slice v1.b.l.oA v1.b.l.on v1.b.l.oc) Tryz.underlying28) ?_
   try go_frame
   repeat(refine p2Q ?_;try go_frame)
   refine p2Step rfl rfl fun K hK=> ?_
   go_wp2_with(first|(at_builtin;refine wpList_copy_sls eltS _ rfl _ _ rfl rfl _ _ _ _ rfl (((gY _ J).b.last.is I.below).spots) (by omega) ?_;intro A1 c1 w3 hO p_)|fail)
   refine hK _ _ (fun _=>I.keep p_) fun hS_=> ?_
   clear hK K hS_
   try go_frame
   replace I:=Zm I p_
   replace J:=q_.z J p_
   clear p_
   refine sA q_ J (Stb.sptOwn A1 v1.b.l.sn c1 c.b.last.spots) hO ?_
   clear q_ J hO
   intro F1 q_ J hU gS
   replace gY:=Zu gY hU
   replace gK:=Zu gK hU
   clear hU
   refine p2Step rfl rfl fun K hK=> ?_
   go_wp2_with(first|(at_builtin;refine wpList_copy_sls eltS _ rfl _ _ rfl rfl _ _ _ _ rfl (((gY _ J).b.last.is I.below).old) (by omega) ?_;intro A2 c2 w3 hO p_)|fail)
   refine hK _ _ (fun _=>I.keep p_) fun hS_=> ?_
   clear hK K hS_
   try go_frame
   replace I:=Zm I p_
   replace J:=q_.z J p_
   clear p_
   refine sA q_ J (Stb.sptOwn A2 v1.b.l.on c2 c.b.last.old) hO ?_
   clear q_ J hO
   intro F2 q_ J hU gO
   replace gY:=Zu gY hU
   replace gK:=Zu gK hU
   replace gS:=Zu gS hU
   clear hU
   repeat(refine p2Q ?_;try go_frame)
   refine p2Step rfl rfl fun K hK=> ?_
   go_wp2_with(first|(refine q_.m 2 I J 47 (cplA c { v1 with b:= { v1.b with l:= { v1.b.l with sA:=A1,sc:=c1}}}) ?_;clear I J;intro w4 I J;simp only[List.set]at I)|fail)
   refine hK _ _ (fun h=>absurd h (by decide)) fun hS_=> ?_
   clear hK K hS_
   try go_frame
   repeat(refine p2Q ?_;try go_frame)
   refine p2Step rfl rfl fun K hK=> ?_
   go_wp2_with(first|(refine q_.m 2 I J 48 (cplA c { v1 with b:= { v1.b with l:=⟨A1,v1.b.l.sn,c1,A2,v1.b.l.on,c2⟩}}) ?_;clear I J;intro w4 I J;simp only[List.set]at I)|fail)
   refine hK _ _ (fun h=>absurd h (by decide)) fun hS_=> ?_
   clear hK K hS_
   try go_frame
   refine p2Done ?_
   have h:=gY.out _ J
   have hk:=gK.out _ J
   go_wp2_with fail
   go_roundw
   case rel=>exact Zh ⟨5,{ v1 with b:= { v1.b with l:=⟨A1,v1.b.l.sn,c1,A2,v1.b.l.on,c2⟩}},by omega,by go_num,I.out,⟨h.a,⟨h.b.cells,h.b.asked,.inl ⟨gS _ J,gO.out _ J,l1,l2⟩,h.b.reply⟩,h.l,h.r⟩,⟨fun _=>hk.m0 (by omega),fun _=>hk.m1 (by omega),fun _=>hk.m2 (by omega),fun _=>hk.m3 (by omega),fun _=>⟨gS _ J,gO.out _ J,l1,l2⟩,fun h=>absurd h (by omega)⟩,eA.out,eN.out,eC.out⟩
   case measure=>simp[intOf]
  ·have pk:=Zc I 0 5 (.pointer (some ⟨gc,49,none⟩))
   have hms:=(gY _ J).b.reply.is I.below
   have l1:=hms.spots.len
   have l2:=hms.old.len
   have s1:=hl.b.r.s
   have s2:=hl.b.r.o
   clear hms
   go_upto_region 4 with fail
   clear pk
   replace J:=Zh (q_.keep J ((Below.refl _ _).drew))
   replace I:=Zh (I.keep ((Below.refl _ _).drew))
   have HMs:=Zh I.out
   refine wp_region_two (fun w'=>Mem _ w' _) 14 [(0,1),(1,1),(2,1),(3,1),(4,1),(5,2),(7,1),(8,1),(9,1),(10,2),(6,0),(11,0),(12,1),(13,1),(14,0),(15,1),(16,1),(17,0)] (by kernel_rfl) (by kernel_rfl) HMs.out ?_
   clear HMs
   generalize World.drew _=wd at*
   repeat(refine p2Q ?_;try go_frame)
   refine p2Take (by rfl) (yc 2 54 (.slice v1.b.r.sA v1.b.r.sn v1.b.r.sc) Tryz.underlying28) ?_
   try go_frame
   repeat(refine p2Q ?_;try go_frame)
   refine p2Take (by rfl) (yc 2 55 (.slice v1.b.r.oA v1.b.r.on v1.b.r.oc) Tryz.underlying28) ?_
   try go_frame
   repeat(refine p2Q ?_;try go_frame)
   refine p2Step rfl rfl fun K hK=> ?_
   go_wp2_with(first|(at_builtin;refine wpList_copy_sls eltS _ rfl _ _ rfl rfl _ _ _ _ rfl (((gY _ J).b.reply.is I.below).spots) (by omega) ?_;intro A1 c1 w3 hO p_)|fail)
   refine hK _ _ (fun _=>I.keep p_) fun hS_=> ?_
   clear hK K hS_
   try go_frame
   replace I:=Zm I p_
   replace J:=q_.z J p_
   clear p_
   refine sA q_ J (Stb.sptOwn A1 v1.b.r.sn c1 c.b.reply.spots) hO ?_
   clear q_ J hO
   intro F1 q_ J hU gS
   replace gY:=Zu gY hU
   replace gK:=Zu gK hU
   clear hU
   refine p2Step rfl rfl fun K hK=> ?_
   go_wp2_with(first|(at_builtin;refine wpList_copy_sls eltS _ rfl _ _ rfl rfl _ _ _ _ rfl (((gY _ J).b.reply.is I.below).old) (by omega) ?_;intro A2 c2 w3 hO p_)|fail)
   refine hK _ _ (fun _=>I.keep p_) fun hS_=> ?_
   clear hK K hS_
   try go_frame
   replace I:=Zm I p_
   replace J:=q_.z J p_
   clear p_
   refine sA q_ J (Stb.sptOwn A2 v1.b.r.on c2 c.b.reply.old) hO ?_
   clear q_ J hO
   intro F2 q_ J hU gO
   replace gY:=Zu gY hU
   replace gK:=Zu gK hU
   replace gS:=Zu gS hU
   clear hU
   repeat(refine p2Q ?_;try go_frame)
   refine p2Step rfl rfl fun K hK=> ?_
   go_wp2_with(first|(refine q_.m 2 I J 54 (cplA c { v1 with b:= { v1.b with r:= { v1.b.r with sA:=A1,sc:=c1}}}) ?_;clear I J;intro w4 I J;simp only[List.set]at I)|fail)
   refine hK _ _ (fun h=>absurd h (by decide)) fun hS_=> ?_
   clear hK K hS_
   try go_frame
   repeat(refine p2Q ?_;try go_frame)
   refine p2Step rfl rfl fun K hK=> ?_
   go_wp2_with(first|(refine q_.m 2 I J 55 (cplA c { v1 with b:= { v1.b with r:=⟨A1,v1.b.r.sn,c1,A2,v1.b.r.on,c2⟩}}) ?_;clear I J;intro w4 I J;simp only[List.set]at I)|fail)
   refine hK _ _ (fun h=>absurd h (by decide)) fun hS_=> ?_
   clear hK K hS_
   try go_frame
   refine p2Done ?_
   have h:=gY.out _ J
   have hk:=gK.out _ J
   go_wp2_with fail
   go_roundw
   case rel=>exact Zh ⟨6,{ v1 with b:= { v1.b with r:=⟨A1,v1.b.r.sn,c1,A2,v1.b.r.on,c2⟩}},by omega,by go_num,I.out,⟨h.a,⟨h.b.cells,h.b.asked,h.b.last,.inl ⟨gS _ J,gO.out _ J,l1,l2⟩⟩,h.l,h.r⟩,⟨fun _=>hk.m0 (by omega),fun _=>hk.m1 (by omega),fun _=>hk.m2 (by omega),fun _=>hk.m3 (by omega),fun _=>hk.m4 (by omega),fun _=>⟨gS _ J,gO.out _ J,l1,l2⟩⟩,eA.out,eN.out,eC.out⟩
   case measure=>simp[intOf]
  ·go_upto_region 6 with fail
   replace J:=Zh (q_.keep J ((Below.refl _ _).drew))
   replace I:=Zh (I.keep ((Below.refl _ _).drew))
   have m1:=((gY _ J).a.cells.is I.below).1.len
   have m2:=((gY _ J).b.cells.is I.below).1.len
   have s1:=hl.a.c
   have s2:=hl.b.c
   have HMs:=Zh I.out
   refine wp_region_two (fun w'=>Mem _ w' _) 10 [(0,1),(1,1),(2,2),(4,1),(5,1),(6,2),(3,0),(7,0),(8,1),(9,1),(10,0),(11,1),(12,1),(13,0)] (by kernel_rfl) (by kernel_rfl) HMs.out ?_
   clear HMs
   generalize World.drew _=wd at*
   repeat(refine p2Q ?_;try go_frame)
   refine p2Take (by rfl) (yc 2 3 (.slice v1.a.cA v1.a.cn v1.a.cc) Tryz.underlying27) ?_
   try go_frame
   repeat(refine p2Q ?_;try go_frame)
   refine p2Take (by rfl) (yc 2 31 (.slice v1.b.cA v1.b.cn v1.b.cc) Tryz.underlying27) ?_
   try go_frame
   repeat(refine p2Q ?_;try go_frame)
   refine p2Step rfl rfl fun K hK=> ?_
   go_wp2_with(first|(at_builtin;refine wpList_copy_sls eltT _ rfl _ _ rfl rfl _ _ _ _ rfl (((gY _ J).a.cells.is I.below).1) (by omega) ?_;intro A1 cA1 w3 hO p_)|fail)
   refine hK _ _ (fun _=>I.keep p_) fun hS_=> ?_
   clear hK K hS_
   try go_frame
   replace I:=Zm I p_
   replace J:=q_.z J p_
   clear p_
   refine sA q_ J (Stb.tclRow A1 v1.a.cn cA1 c.a.cells) hO ?_
   clear q_ J hO
   intro F1 q_ J hU gA1
   replace gY:=Zu gY hU
   replace gK:=Zu gK hU
   clear hU
   refine p2Step rfl rfl fun K hK=> ?_
   go_wp2_with(first|(at_builtin;refine wpList_copy_sls eltT _ rfl _ _ rfl rfl _ _ _ _ rfl (((gY _ J).b.cells.is I.below).1) (by omega) ?_;intro A2 cA2 w3 hO p_)|fail)
   refine hK _ _ (fun _=>I.keep p_) fun hS_=> ?_
   clear hK K hS_
   try go_frame
   replace I:=Zm I p_
   replace J:=q_.z J p_
   clear p_
   refine sA q_ J (Stb.tclRow A2 v1.b.cn cA2 c.b.cells) hO ?_
   clear q_ J hO
   intro F2 q_ J hU gA2
   replace gY:=Zu gY hU
   replace gK:=Zu gK hU
   replace gA1:=Zu gA1 hU
   clear hU
   repeat(refine p2Q ?_;try go_frame)
   refine p2Step rfl rfl fun K hK=> ?_
   go_wp2_with(first|(refine q_.m 2 I J 3 (cplA c { v1 with a:= { v1.a with cA:=A1,cc:=cA1}}) ?_;clear I J;intro w4 I J;simp only[List.set]at I)|fail)
   refine hK _ _ (fun h=>absurd h (by decide)) fun hS_=> ?_
   clear hK K hS_
   try go_frame
   repeat(refine p2Q ?_;try go_frame)
   refine p2Step rfl rfl fun K hK=> ?_
   go_wp2_with(first|(refine q_.m 2 I J 31 (cplA c { v1 with a:= { v1.a with cA:=A1,cc:=cA1},b:= { v1.b with cA:=A2,cc:=cA2}}) ?_;clear I J;intro w4 I J;simp only[List.set]at I)|fail)
   refine hK _ _ (fun h=>absurd h (by decide)) fun hS_=> ?_
   clear hK K hS_
   try go_frame
   refine p2Done ?_
   replace m1:=Zh m1
   replace m2:=Zh m2
   clear s1 s2
   have n1:=m1
   have n2:=m2
   clear m1 m2
   go_upto_region 7 with fail
   replace J:=Zh (q_.keep J ((Below.refl _ _).drew))
   replace I:=Zh (I.keep ((Below.refl _ _).drew))
   have m1:=((gY _ J).l.is I.below).1.len
   have m2:=((gY _ J).r.is I.below).1.len
   have s1:=hl.l
   have s2:=hl.r
   have HMs:=Zh I.out
   refine wp_region_two (fun w'=>Mem _ w' _) 10 [(0,1),(1,1),(2,2),(4,1),(5,1),(6,2),(3,0),(7,0),(8,1),(9,1),(10,0),(11,1),(12,1),(13,0)] (by kernel_rfl) (by kernel_rfl) HMs.out ?_
   clear HMs
   generalize World.drew _=wd at*
   repeat(refine p2Q ?_;try go_frame)
   refine p2Take (by rfl) (yc 2 58 (.slice v1.l.A v1.l.n v1.l.c) Tryz.underlying27) ?_
   try go_frame
   repeat(refine p2Q ?_;try go_frame)
   refine p2Take (by rfl) (yc 2 61 (.slice v1.r.A v1.r.n v1.r.c) Tryz.underlying27) ?_
   try go_frame
   repeat(refine p2Q ?_;try go_frame)
   refine p2Step rfl rfl fun K hK=> ?_
   go_wp2_with(first|(at_builtin;refine wpList_copy_sls eltT _ rfl _ _ rfl rfl _ _ _ _ rfl (((gY _ J).l.is I.below).1) (by omega) ?_;intro A3 cA3 w3 hO p_)|fail)
   refine hK _ _ (fun _=>I.keep p_) fun hS_=> ?_
   clear hK K hS_
   try go_frame
   replace I:=Zm I p_
   replace J:=q_.z J p_
   clear p_
   refine sA q_ J (Stb.tclRow A3 v1.l.n cA3 c.left.cells) hO ?_
   clear q_ J hO
   intro F3 q_ J hU gA3
   replace gY:=Zu gY hU
   replace gK:=Zu gK hU
   replace gA1:=Zu gA1 hU
   replace gA2:=Zu gA2 hU
   clear hU
   refine p2Step rfl rfl fun K hK=> ?_
   go_wp2_with(first|(at_builtin;refine wpList_copy_sls eltT _ rfl _ _ rfl rfl _ _ _ _ rfl (((gY _ J).r.is I.below).1) (by omega) ?_;intro A4 cA4 w3 hO p_)|fail)
   refine hK _ _ (fun _=>I.keep p_) fun hS_=> ?_
   clear hK K hS_
   try go_frame
   replace I:=Zm I p_
   replace J:=q_.z J p_
   clear p_
   refine sA q_ J (Stb.tclRow A4 v1.r.n cA4 c.right.cells) hO ?_
   clear q_ J hO
   intro F4 q_ J hU gA4
   replace gY:=Zu gY hU
   replace gK:=Zu gK hU
   replace gA1:=Zu gA1 hU
   replace gA2:=Zu gA2 hU
   replace gA3:=Zu gA3 hU
   clear hU
   repeat(refine p2Q ?_;try go_frame)
   refine p2Step rfl rfl fun K hK=> ?_
   go_wp2_with(first|(refine q_.m 2 I J 58 (cplA c { v1 with a:= { v1.a with cA:=A1,cc:=cA1},b:= { v1.b with cA:=A2,cc:=cA2},l:= { v1.l with A:=A3,c:=cA3}}) ?_;clear I J;intro w4 I J;simp only[List.set]at I)|fail)
   refine hK _ _ (fun h=>absurd h (by decide)) fun hS_=> ?_
   clear hK K hS_
   try go_frame
   repeat(refine p2Q ?_;try go_frame)
   refine p2Step rfl rfl fun K hK=> ?_
   go_wp2_with(first|(refine q_.m 2 I J 61 (cplA c { v1 with a:= { v1.a with cA:=A1,cc:=cA1},b:= { v1.b with cA:=A2,cc:=cA2},l:= { v1.l with A:=A3,c:=cA3},r:= { v1.r with A:=A4,c:=cA4}}) ?_;clear I J;intro w4 I J;simp only[List.set]at I)|fail)
   refine hK _ _ (fun h=>absurd h (by decide)) fun hS_=> ?_
   clear hK K hS_
   try go_frame
   refine p2Done ?_
   have h:=gY.out _ J
   have hk:=gK.out _ J
   obtain⟨v2,hv2⟩:∃v2:CplV,v2= { v1 with a:= { v1.a with cA:=A1,cc:=cA1},b:= { v1.b with cA:=A2,cc:=cA2},l:= { v1.l with A:=A3,c:=cA3},r:= { v1.r with A:=A4,c:=cA4}}:=⟨_,rfl⟩
   rw[←hv2]at I
   have hY2:=(⟨⟨⟨gA1 _ J,n1.out⟩,⟨gA2 _ J,n2.out⟩⟩,⟨gA3 _ J,m1⟩,⟨gA4 _ J,m2⟩,⟨hk.m0,hk.m1,hk.m2,hk.m3,hk.m4,hk.m5⟩⟩:Own5 ({ v1 with a:= { v1.a with cA:=A1,cc:=cA1},b:= { v1.b with cA:=A2,cc:=cA2},l:= { v1.l with A:=A3,c:=cA3},r:= { v1.r with A:=A4,c:=cA4}}) c _)
   rw[←hv2]at hY2
   have eA2:v2.A=v.A:=by rw[hv2];exact eA.out
   have eN2:v2.nf=v.nf:=by rw[hv2];exact eN.out
   have eC2:v2.cf=v.cf:=by rw[hv2];exact eC.out
   clear hv2 h hk q_ J gY gK gA1 gA2 gA3 gA4 F0 n1 n2 m1 m2 s1 s2 eA eN eC
   obtain⟨F0,q_,J,gY⟩:∃F:World→Prop,Stb F∧Hid (F _)∧Hid (∀W,F W→Own5 v2 c W):=⟨_,Stb.own5 v2 c,hY2,fun _ h=>h⟩
   clear hY2
   have p62:World.cell? _ ⟨gc,62,none⟩=some (.slice v.A v.nf v.cf):=(I.cell 2 rfl 62).trans (by rw[←eA2,←eN2,←eC2];rfl)
   have s5:=hl.f
   have l5:=(hfr _ I.below).len
   go_upto_region 9 with(first|go_skip|(at_builtin;refine wpList_copyF _ rfl _ _ rfl rfl _ _ _ _ rfl (hfr _ I.below) (by omega) ?_;intro A5 c5 w3 hO p_;obtain⟨b5,hb5,hO⟩:=hO;replace hb5:=Zh (Nat.le_trans I.below.size hb5);clear p62;replace I:=Zm I p_;replace J:=q_.z J p_;clear p_)|(refine sM 2 I 62 (cplA c { v2 with A:=A5,nf:=v.nf,cf:=c5}) ?_;have hBq:=I.at_ 2 rfl;clear I;intro w4 I hG4;simp only[List.set]at I;replace J:=q_.p J hBq hG4;replace hO:=Zh (hO.kept hG4.out (.inr (row_ne_blk hO hBq (by decide))));clear hBq hG4)|fail)
   go_wp2_with(first|go_skip|(refine lG 2 I uC.out ?_)|(refine sF 1 I ?_;have hBq:=I.at_ 1 rfl;clear I;intro w4 I hG4;simp only[List.set]at I;replace J:=q_.p J hBq hG4;replace hO:=Zh (hO.kept hG4.out (.inr (row_ne_blk hO.out hBq (by decide))));clear hBq hG4)|fail)
   try simp only[Exit.inBlock,Exit.then]
   refine rC I 1 uC.out ?_
   have h:=gY.out _ J
   exact⟨_,rfl,⟨⟨h.a,h.b,h.l,h.r,⟨⟨_,hO.out⟩,l5⟩⟩,fun a ha=>Nat.le_trans hb5.out (own_ge hO.out ha)⟩,I.below⟩
theorem ownsRow_fresh(w:World)(T:TypeId)(k:Nat):(w.alloc (.cells #[] T)).ownsRow w.heap.size T k (.slice (some ⟨w.heap.size,0,none⟩) 0 0) 0 []:=⟨(Nat.zero_mul k).symm,.inr ⟨w.heap.size,0,#[],rfl,Nat.le_refl _,(Blk.new w #[] T).1,Nat.le_refl _,Nat.zero_le _,(Nat.zero_mul k).symm,by rw[Nat.zero_mul];rfl⟩⟩
theorem own_lt {w:World} {b s n g c:Nat} {T:TypeId} {xs:List Value}(h:w.ownsRow b T s (.slice (some ⟨g,0,none⟩) n c) n xs):g≤w.heap.size:=by
 rcases h.2 with⟨h,_⟩|⟨g',cap,cur,h,_,h2,_⟩
 ·cases h
 ·injection h with h1
  injection h1 with h1
  injection h1 with h1
  subst h1
  exact Nat.le_of_lt (Array.getElem?_eq_some_iff.1 h2).1
def NewPost(c:Cpl)(e:Int)(w:World)(r:Ending)(w':World):Prop:=∃v,r= .returned (.tuple #[.agg (cplA c v),.int .i64 e])∧CplIs w' v c∧Below w.heap.size w w'
theorem with_not(p:Int):withR p 1 4096= !decide (p<1∨4096<p):=by
 unfold withR
 by_cases h:p<1∨4096<p
 ·rw[decide_eq_true h,Bool.not_true,Bool.and_eq_false_iff,decide_eq_false_iff_not,decide_eq_false_iff_not];omega
 ·rw[decide_eq_false h,Bool.not_false,Bool.and_eq_true,decide_eq_true_eq,decide_eq_true_eq];omega
theorem new_idle(l r:Tab)(f:List Int)(p:Int):pairC (freshC l r f p)=true→Idle (freshC l r f p).a (freshC l r f p).b (freshC l r f p).left (freshC l r f p).right:=fun h=>by
 unfold pairC at h
 exact idleC_iff.1 (of_decide_eq_true h)
theorem start_ok {a b:Int}(h:EdOk (startE a b)):startC a b=0:=by
 have h1:=h.node0
 have h2:=h.node
 have h3:=h.peer0
 have h4:=h.peer
 have h5:=h.ne
 unfold startC
 rw[if_neg]
 show¬(a<0∨31<a∨b<0∨31<b∨a=b)
 change 0≤a at h1
 change a≤31 at h2
 change 0≤b at h3
 change b≤31 at h4
 change a≠b at h5
 omega
theorem new_bad1(l r:Tab)(f:List Int)(p:Int):startC l.node r.node≠0→pairC (freshC l r f p)=false:=fun h=>by
 rw[Bool.eq_false_iff]
 exact fun hp=>h (start_ok (new_idle l r f p hp).fa.ed)
theorem new_bad2(l r:Tab)(f:List Int)(p:Int):startC r.node l.node≠0→pairC (freshC l r f p)=false:=fun h=>by
 rw[Bool.eq_false_iff]
 exact fun hp=>h (start_ok (new_idle l r f p hp).fb.ed)
theorem new_fresh {l r:Tab} {f:List Int} {p:Int}(h1:startC l.node r.node=0)(h2:startC r.node l.node=0):freshC l r f p=⟨startN l.node r.node,startN r.node l.node,l,r,f,p,0,false,false⟩:=by
 unfold startN
 rw[if_pos h1,if_pos h2]
 rfl
theorem new_good(l r:Tab)(f:List Int)(p:Int):startC l.node r.node=0→startC r.node l.node=0→pairC ⟨startN l.node r.node,startN r.node l.node,l,r,f,p,0,false,false⟩=pairC (freshC l r f p):=fun h1 h2=>by rw[new_fresh h1 h2]
theorem new_idleB(l r:Tab)(f:List Int)(p:Int):startC l.node r.node=0→startC r.node l.node=0→idleB (startN l.node r.node) (startN r.node l.node) l r=pairC (freshC l r f p):=fun h1 h2=>by
 rw[pairC_eq2]
 unfold startN
 rw[if_pos h1,if_pos h2]
 show _=(idleB (startE l.node r.node) (startE r.node l.node) l r&&(!false&& !false))
 simp
theorem newP_any(l r:Tab)(f:List Int)(p:Int)(vl vr:TabV)(A:Option Addr)(nf cf:Nat)(w:World)(hl:TabIs w vl l)(hr:TabIs w vr r)(hf:IntS w A nf f)(hc:nf≤cf)(hn:nf≤17592186044416):Calls Tryz.prog 38 #[.agg (tabA l vl),.agg (tabA r vr),.slice A nf cf,.int .i64 p] w (NewPost (newCN l r f p) (newCC l r f p) w):=by
 have I:=Zh (Mem.start w)
 obtain⟨F0,q_,J⟩:∃F:World→Prop,Stb F∧Hid (F w):=⟨_,Stb.true,trivial⟩
 have uE:=Tryz.underlying32
 have uT:=Tryz.underlying37
 have uM:=Tryz.underlying30
 have uC:=Tryz.underlying70
 have c1:=fun W=>start_own l.node r.node W
 have c2:=fun W=>start_own r.node l.node W
 unfold EndOwn at c1 c2
 have hPb:∀W,pairC (freshC l r f p)=false→Below w.heap.size w W→newCC l r f p≠2→NewPost (newCN l r f p) (newCC l r f p) w (.returned (.tuple #[.agg (cplA cpl0 cplV0),.int .i64 1])) W:=fun W h hb h2=>by
  have h1:newCC l r f p=1:=by
   by_cases hx:p<1∨4096<p
   ·exact absurd (by unfold newCC;rw[if_pos hx]) h2
   ·unfold newCC;rw[if_neg hx,if_pos h]
  unfold newCN
  rw[h1,if_neg (by decide)]
  exact⟨cplV0,rfl,CplIs.zero _,hb⟩
 have hP2:∀W,newCC l r f p=2→Below w.heap.size w W→NewPost (newCN l r f p) (newCC l r f p) w (.returned (.tuple #[.agg (cplA cpl0 cplV0),.int .i64 2])) W:=fun W h hb=>by
  unfold newCN
  rw[h,if_neg (by decide)]
  exact⟨cplV0,rfl,CplIs.zero _,hb⟩
 have hPo:∀v W,pairC (freshC l r f p)=true→newCC l r f p≠2→CplIs W v (freshC l r f p)→Below w.heap.size w W→NewPost (newCN l r f p) (newCC l r f p) w (.returned (.tuple #[.agg (cplA (freshC l r f p) v),.int .i64 0])) W:=fun v W h h2 hC hb=>by
  have h1:newCC l r f p=0:=by
   by_cases hx:p<1∨4096<p
   ·exact absurd (by unfold newCC;rw[if_pos hx]) h2
   ·unfold newCC;rw[if_neg hx,if_neg (by rw[h];decide)]
  unfold newCN
  rw[h1,if_pos rfl]
  exact⟨v,rfl,hC,hb⟩
 generalize NewPost (newCN l r f p) (newCC l r f p) w=P at*
 have h2p:(p<1∨4096<p)→newCC l r f p=2:=fun h=>by unfold newCC;rw[if_pos h]
 have h2n:¬(p<1∨4096<p)→newCC l r f p≠2:=fun h=>by
  unfold newCC
  rw[if_neg h]
  split<;>decide
 generalize newCC l r f p=NC at*
 have hq1:=new_bad1 l r f p
 have hq2:=new_bad2 l r f p
 have hq3:=new_good l r f p
 have hIdle:=new_idle l r f p
 have cW:=fun W=>rwith_any p 1 4096 W
 have hw:=with_not p
 have cP:=fun v W (h:CplIs W v ⟨startN l.node r.node,startN r.node l.node,l,r,f,p,0,false,false⟩)=>pairP_any _ v W h
 have cC:=fun v W (h:CplIs W v (freshC l r f p)) (q:CplLen (freshC l r f p))=>cloneP_any _ v W h q
 by_cases hp:p<1∨4096<p
 case pos=>
  replace h2p:=h2p hp
  clear cP hq1 hq2 hq3 hIdle h2n hPb hPo
  rw[hw,decide_eq_true hp]at cW
  clear hp hw cC
  refine zh7 ?_ hP2 h2p uE uT uM uC cW;clear hP2 h2p uE uT uM uC cW;intro hP2 h2p uE uT uM uC cW
  go_enter Tryz.func38,Tryz.ntmps38
  have mk1:Unit:=()
  have mk2:Unit:=()
  have mk3:Unit:=()
  go_wp2_with(first|go_skip|(clear mk1;refine q_.b I J 37 ?_;clear I J;intro gl w1 I J)|(clear mk2;refine q_.b I J 37 ?_;clear I J;intro gr w1 I J)|(clear mk3;refine q_.a I J cpInfo ?_;clear I J;intro go w1 I J)|(go_at_call 106;refine(cW _).mono ?_;rintro e w_ ⟨rfl,rfl⟩)|(refine q_.s 0 I J ?_;clear I J;intro w4 I J;simp only[List.set]at I)|fail)
  try simp only[Exit.inBlock,Exit.then]
  refine rT I 0 uC.out ?_
  exact hP2.out _ h2p.out I.below
 replace h2n:=h2n hp
 clear h2p hP2
 rw[hw,decide_eq_false hp]at cW
 clear hw
 clear hp
 have hfr:=fun(h1:startC l.node r.node=0) (h2:startC r.node l.node=0)=>new_fresh (f:=f) (p:=p) h1 h2
 generalize hFR:freshC l r f p=FR at*
 generalize startN l.node r.node=E1 at*
 generalize startN r.node l.node=E2 at*
 generalize startC l.node r.node=C1 at*
 generalize startC r.node l.node=C2 at*
 generalize pairC FR=PF at*
 refine zh12 ?_ hPb hPo h2n hq1 hq2 hq3 hIdle hfr hFR c1 c2 cP;clear hPb hPo h2n hq1 hq2 hq3 hIdle hfr hFR c1 c2 cP;intro hPb hPo h2n hq1 hq2 hq3 hIdle hfr hFR c1 c2 cP
 refine zh9 ?_ hl hr hf uE uT uM uC cW cC;clear hl hr hf uE uT uM uC cW cC;intro hl hr hf uE uT uM uC cW cC
 go_enter Tryz.func38,Tryz.ntmps38
 have mk1:Unit:=()
 have mk2:Unit:=()
 have mk3:Unit:=()
 go_upto_region 1 with(first|go_skip|(clear mk1;refine q_.b I J 37 ?_;clear I J;intro gl w1 I J)|(clear mk2;refine q_.b I J 37 ?_;clear I J;intro gr w1 I J)|(clear mk3;refine q_.a I J cpInfo ?_;clear I J;intro go w1 I J)|fail)
 go_upto_region 3 with(first|go_skip|(go_at_call 106;refine(cW _).mono ?_;rintro e w_ ⟨rfl,rfl⟩)|fail)
 have nl:=Zc I 2 0 (.int .i64 l.node)
 have nr:=Zc I 1 0 (.int .i64 r.node)
 have mk4:Unit:=()
 have mk5:Unit:=()
 go_upto_region 4 with(first|go_skip|(go_at_call 9;clear mk4;refine(c1 _).mono ?_;rintro r w3 ⟨v1,rfl,hE1,p_⟩;clear nl nr;replace I:=Zm I p_;replace J:=q_.z J p_;clear p_;refine sA q_ J (Stb.ed v1 _) hE1 ?_;clear q_ J hE1;intro F1 q_ J hU gA;clear hU;dsimp only)|(clear mk5;refine q_.a I J edInfo ?_;clear I J;intro g1 w1 I J)|(refine q_.s 0 I J ?_;clear I J;intro w4 I J;simp only[List.set]at I)|fail)
 have nl:=Zc I 3 0 (.int .i64 l.node)
 have nr:=Zc I 2 0 (.int .i64 r.node)
 have mk6:Unit:=()
 have mk7:Unit:=()
 go_upto_region 5 with(first|go_skip|(go_at_call 9;clear mk6;refine(c2 _).mono ?_;rintro r w3 ⟨v2,rfl,hE1,p_⟩;clear nl nr;replace I:=Zm I p_;replace J:=q_.z J p_;clear p_;refine sA q_ J (Stb.ed v2 _) hE1 ?_;clear q_ J hE1;intro F2 q_ J hU gB;replace gA:=Zu gA hU;clear hU;dsimp only)|(clear mk7;refine q_.a I J edInfo ?_;clear I J;intro g2 w1 I J)|(refine q_.s 0 I J ?_;clear I J;intro w4 I J;simp only[List.set]at I)|fail)
 refine wp_region_lit ?_
 refine lM 1 I uE.out ?_
 try go_frame
 refine lM 0 I uE.out ?_
 try go_frame
 refine lM 4 I uT.out ?_
 try go_frame
 refine lM 3 I uT.out ?_
 try go_frame
 refine wpList_pureX rfl (by go_simp;first|done|exact rfl) ?_
 try go_frame
 refine wpList_pureX rfl (by go_simp;first|done|exact rfl) ?_
 try go_frame
 refine wpList_pureX (v:= .agg (cplA ⟨E1,E2,l,r,f,p,0,false,false⟩ ⟨v1,v2,vl,vr,A,nf,cf⟩)) rfl (by kernel_rfl) ?_
 try go_frame
 have mk8:Unit:=()
 go_upto_region 6 with(first|go_skip|(clear mk8;refine q_.a I J cpInfo ?_;clear I J;intro gq w1 I J)|(refine q_.s 0 I J ?_;clear I J;intro w4 I J;simp only[List.set]at I)|fail)
 by_cases e1:C1=0
 case neg=>
  have d1:(C1 !=0)=true:=by rw[bne_iff_ne];exact e1
  have hh:=Zh (hq1 e1)
  clear hq1
  replace e1:=Zh e1
  go_wp2_with(first|go_skip|(refine lG 0 I uC.out ?_)|(refine q_.s 3 I J ?_;clear I J;intro w4 I J;simp only[List.set]at I)|fail)
  try simp only[Exit.inBlock,Exit.then]
  refine rT I 3 uC.out ?_
  exact hPb.out _ hh.out I.below h2n.out
 have d1:(C1 !=0)=false:=by rw[bne_eq_false_iff_eq];exact e1
 by_cases e2:C2=0
 case neg=>
  have d2:(C2 !=0)=true:=by rw[bne_iff_ne];exact e2
  have hh:=Zh (hq2 e2)
  clear hq2
  replace e2:=Zh e2
  go_wp2_with(first|go_skip|(refine lG 0 I uC.out ?_)|(refine q_.s 3 I J ?_;clear I J;intro w4 I J;simp only[List.set]at I)|fail)
  try simp only[Exit.inBlock,Exit.then]
  refine rT I 3 uC.out ?_
  exact hPb.out _ hh.out I.below h2n.out
 have d2:(C2 !=0)=false:=by rw[bne_eq_false_iff_eq];exact e2
 have hv:=hq3.out e1 e2
 rw[hv]at cP
 clear hv
 have hfr2:=hfr.out e1 e2
 clear hfr hq1 hq2 hq3
 replace e1:=Zh e1
 replace e2:=Zh e2
 cases PF
 case false=>
  have mk9:Unit:=()
  go_wp2_with(first|go_skip|(refine lG 0 I uC.out ?_)|(go_at_call 107;clear mk9;refine q_.k I J (cP _ _ ⟨(gA _ J).is,(gB _ J).is,hl.keep I.below,hr.keep I.below,hf.keep I.below,hc⟩) ?_;clear I J;intro w3 I J;dsimp only)|(refine q_.s 3 I J ?_;clear I J;intro w4 I J;simp only[List.set]at I)|fail)
  try simp only[Exit.inBlock,Exit.then]
  refine rT I 3 uC.out ?_
  exact hPb.out _ (by first|rfl|trivial) I.below h2n.out
 replace hIdle:=hIdle.out rfl
 have mk9:Unit:=()
 go_upto_region 8 with(first|go_skip|(refine lG 0 I uC.out ?_)|(go_at_call 107;clear mk9;refine q_.k I J (cP _ _ ⟨(gA _ J).is,(gB _ J).is,hl.keep I.below,hr.keep I.below,hf.keep I.below,hc⟩) ?_;clear I J;intro w3 I J;dsimp only)|fail)
 subst hfr2
 have hLen:=Zh (cplLen_of hIdle (by show f.length≤17592186044416;rw[hf.out.len];exact hn))
 have mk10:Unit:=()
 go_wp2_with(first|go_skip|(refine lG 0 I uC.out ?_)|(go_at_call 103;clear mk10;refine(cC _ _ ⟨(gA _ J).is,(gB _ J).is,hl.keep I.below,hr.keep I.below,hf.keep I.below,hc⟩ hLen.out).mono ?_;rintro r w3 ⟨vc,rfl,⟨hC,_⟩,p_⟩;replace I:=Zm I p_;replace J:=q_.z J p_;clear p_;replace hC:=Zh hC;dsimp only)|(refine sF 3 I ?_;have hBq:=I.at_ 3 rfl;clear I;intro w4 I hG4;simp only[List.set]at I;replace hC:=Zh ((Stc.cplOwn ..).put hC.out hBq (by decide) (by decide) (by decide) hG4.out);clear hBq hG4)|fail)
 try simp only[Exit.inBlock,Exit.then]
 refine rT I 3 uC.out ?_
 exact hPo.out _ _ (by first|rfl|trivial) h2n.out ((hC.s _).is (Below.refl _ _)) I.below
end Tx
end Go.Proofs.YtfamifgchgolpaaGreat
