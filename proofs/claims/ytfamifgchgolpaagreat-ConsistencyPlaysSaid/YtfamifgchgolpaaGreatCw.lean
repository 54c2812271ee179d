/- Chapter 27: an exchange that goes on, and its methods: the program's. -/
import Derived.Maps.RangeWalk
import Derived.Test.YtfamifgchgolpaaGreatCy
import Derived.Test.YtfamifgchgolpaaGreatVq
import Derived.Test.YtfamifgchgolpaaGreatCa
import Derived.Test.YtfamifgchgolpaaGreatCb
import Derived.Test.YtfamifgchgolpaaGreatBx
import Derived.Test.YtfamifgchgolpaaGreatBu
set_option linter.unusedVariables false
set_option linter.unusedSimpArgs false
set_option maxRecDepth 100000
set_option maxHeartbeats 4000000
namespace Go.Proofs.YtfamifgchgolpaaGreat
open Go Go.RowKit Go.Sort Go.Shelf Go.Maps
namespace Tx
open Sw Mm Pl
def fateA(x:Fate):Array Value:=#[.bool x.request,.bool x.reply,.bool x.requestAck,.bool x.replyAck]
def sideA(e:Ed)(v:EdV)(t:Tab)(vt:TabV):Array Value:=#[.int .i64 e.node,.int .i64 e.peer,.int .i64 e.number,.slice v.cA v.cn v.cc,.bool e.opn,.int .i64 e.since,.int .i64 e.asked.kind,.bool e.asked.reply,.int .i64 e.asked.number,.int .i64 e.asked.code,.int .i64 e.asked.count,.slice v.a.sA v.a.sn v.a.sc,.slice v.a.oA v.a.on v.a.oc,.bool e.known,.int .i64 e.last.kind,.bool e.last.reply,.int .i64 e.last.number,.int .i64 e.last.code,.int .i64 e.last.count,.slice v.l.sA v.l.sn v.l.sc,.slice v.l.oA v.l.on v.l.oc,.int .i64 e.reply.kind,.bool e.reply.reply,.int .i64 e.reply.number,.int .i64 e.reply.code,.int .i64 e.reply.count,.slice v.r.sA v.r.sn v.r.sc,.slice v.r.oA v.r.on v.r.oc,.int .i64 t.node,.int .i64 t.length,.slice vt.A vt.n vt.c]
structure Xd where
 a:Ed
 b:Ed
 ta:Tab
 tb:Tab
 x:Fate
 m:Msg
 r:Msg
 code:Int
structure Xv where
 a:EdV
 b:EdV
 ta:TabV
 tb:TabV
 A:Option Addr
 nf:Nat
 cf:Nat
 m:MsgV
 r:MsgV
def exA(d:Xd)(v:Xv):Array Value:=#[.int .i64 d.a.node,.int .i64 d.a.peer,.int .i64 d.a.number,.slice v.a.cA v.a.cn v.a.cc,.bool d.a.opn,.int .i64 d.a.since,.int .i64 d.a.asked.kind,.bool d.a.asked.reply,.int .i64 d.a.asked.number,.int .i64 d.a.asked.code,.int .i64 d.a.asked.count,.slice v.a.a.sA v.a.a.sn v.a.a.sc,.slice v.a.a.oA v.a.a.on v.a.a.oc,.bool d.a.known,.int .i64 d.a.last.kind,.bool d.a.last.reply,.int .i64 d.a.last.number,.int .i64 d.a.last.code,.int .i64 d.a.last.count,.slice v.a.l.sA v.a.l.sn v.a.l.sc,.slice v.a.l.oA v.a.l.on v.a.l.oc,.int .i64 d.a.reply.kind,.bool d.a.reply.reply,.int .i64 d.a.reply.number,.int .i64 d.a.reply.code,.int .i64 d.a.reply.count,.slice v.a.r.sA v.a.r.sn v.a.r.sc,.slice v.a.r.oA v.a.r.on v.a.r.oc,.int .i64 d.ta.node,.int .i64 d.ta.length,.slice v.ta.A v.ta.n v.ta.c,.int .i64 d.b.node,.int .i64 d.b.peer,.int .i64 d.b.number,.slice v.b.cA v.b.cn v.b.cc,.bool d.b.opn,.int .i64 d.b.since,.int .i64 d.b.asked.kind,.bool d.b.asked.reply,.int .i64 d.b.asked.number,.int .i64 d.b.asked.code,.int .i64 d.b.asked.count,.slice v.b.a.sA v.b.a.sn v.b.a.sc,.slice v.b.a.oA v.b.a.on v.b.a.oc,.bool d.b.known,.int .i64 d.b.last.kind,.bool d.b.last.reply,.int .i64 d.b.last.number,.int .i64 d.b.last.code,.int .i64 d.b.last.count,.slice v.b.l.sA v.b.l.sn v.b.l.sc,.slice v.b.l.oA v.b.l.on v.b.l.oc,.int .i64 d.b.reply.kind,.bool d.b.reply.reply,.int .i64 d.b.reply.number,.int .i64 d.b.reply.code,.int .i64 d.b.reply.count,.slice v.b.r.sA v.b.r.sn v.b.r.sc,.slice v.b.r.oA v.b.r.on v.b.r.oc,.int .i64 d.tb.node,.int .i64 d.tb.length,.slice v.tb.A v.tb.n v.tb.c,.slice v.A v.nf v.cf,.bool d.x.request,.bool d.x.reply,.bool d.x.requestAck,.bool d.x.replyAck,.int .i64 d.m.kind,.bool d.m.reply,.int .i64 d.m.number,.int .i64 d.m.code,.int .i64 d.m.count,.slice v.m.sA v.m.sn v.m.sc,.slice v.m.oA v.m.on v.m.oc,.int .i64 d.r.kind,.bool d.r.reply,.int .i64 d.r.number,.int .i64 d.r.code,.int .i64 d.r.count,.slice v.r.sA v.r.sn v.r.sc,.slice v.r.oA v.r.on v.r.oc,.int .i64 d.code]
theorem sdInfo:(Tryz.prog.info? 128).map (fun i=>(i.zero,i.size,i.bytes))=some (some (.agg (sideA ed0 edV0 tab0 tabV0)),31,376):=by kernel_rfl
theorem zsd:(Tryz.prog.info? 128).map (·.size)=some 31:=by kernel_rfl
theorem zex:(Tryz.prog.info? 134).map (·.size)=some 82:=by kernel_rfl
theorem zfa:(Tryz.prog.info? 40).map (·.size)=some 4:=by kernel_rfl
def EdW(w0:World)(v:EdV)(e:Ed)(w:World):Prop:=EdOwn w v e∨EdIs w0 v e
theorem EdW.is {w0 w:World} {v:EdV} {e:Ed}(h:EdW w0 v e w)(hb:Below w0.heap.size w0 w):EdIs w v e:=h.elim (·.is) (·.keep hb)
theorem Stb.edW(w0:World)(v:EdV)(e:Ed):Stb (EdW w0 v e):=⟨fun x hb=>x.imp (·.keep hb) id,fun x hB h1 h2 hg=>x.imp (·.put hB h1 h2 hg) id⟩
theorem ask_exp {a:Ed} {ta:Tab} {f:List Int} {k n:Int}(h:askC a ta f k n 0=0):expN (askE a ta f k n 0) 0 0=closE (askE a ta f k n 0):=by
 have h1:fullC ta a=0:=by
  unfold askC at h
  split at h
  ·exact absurd h (by assumption)
  ·rename_i h1;exact Decidable.not_not.1 h1
 have hF:=(fullC_iff _ _).1 h1
 have hX:=ask_full hF ((askC_iff hF).1 h)
 rw[(askE_eq h).1]
 unfold expN
 rw[if_pos]
 unfold expB
 rw[(chkE_iff _).2 hX.ed]
 show(decide ((0:Int)=0)&&(true&&(decide ((0:Int)≤0)&&decide ((0:Int)≤0-0))))=true
 decide
theorem exp_own {w:World} {v:EdV} {e:Ed}(_:EdOwn w v e):True:=trivial
def LosePost(a0:World)(L:List (Nat×Array Value×TypeId))(B:Nat)(F:World→Prop)(d:Xd)(v:Xv)(r:Ending)(w':World):Prop:=∃va,r= .returned (.bool false)∧Mem a0 w' ((B,exA { d with a:=expN d.a 0 0} { v with a:=va},134)::L)∧F w'∧EdOwn w' va (expN d.a 0 0)
theorem exLose_any(d:Xd)(v:Xv)(B:Nat)(a0 w:World)(L:List (Nat×Array Value×TypeId))(F:World→Prop)(h0:Mem a0 w ((B,exA d v,134)::L))(hFs:Stb F)(hF:Hid (F w))(hE:EdOwn w v.a d.a):Calls Tryz.prog 146 #[.pointer (some ⟨B,0,none⟩)] w (LosePost a0 L B F d v):=by
 have HM:=Zh h0
 clear h0
 have uE:=Tryz.underlying32
 have uT:=Tryz.underlying37
 have uM:=Tryz.underlying30
 have cX:=fun W (hE:EdOwn W v.a d.a)=>expire_own d.a v.a 0 0 W hE (by decide) (by decide)
 unfold ExpOwn at cX
 generalize hP:LosePost a0 L B F d v=P
 have hPo:∀va W,Mem a0 W ((B,exA { d with a:=expN d.a 0 0} { v with a:=va},134)::L)→F W→EdOwn W va (expN d.a 0 0)→P (.returned (.bool false)) W:=fun va W h1 h2 h3=>by rw[←hP];exact⟨va,rfl,h1,h2,h3⟩
 clear hP
 generalize expN d.a 0 0=E at*
 generalize expB d.a 0 0=EB at*
 obtain⟨F1,hFs2,hF2,hU,hNw⟩:=stb_add hFs hF (Stb.ed v.a d.a) hE
 have gF:=Zh hU
 have gE:=Zh hNw
 clear hFs hF hU hNw hE
 have hFs:=hFs2
 have hF:=hF2
 clear hFs2 hF2
 replace cX:=Zh cX
 replace hPo:=Zh hPo
 replace uE:=Zh uE
 replace uT:=Zh uT
 replace uM:=Zh uM
 go_enter Tryz.func146,Tryz.ntmps146
 have mk1:Unit:=()
 go_upto_region 2 with(first|go_skip|(refine lP 0 HM 0 (endA d.a v.a) uE.out ?_)|(go_at_call 201;clear mk1;refine(cX.out _ (gE.out _ hF.out)).mono ?_;rintro r w3 ⟨va,rfl,hE,hb_⟩;replace HM:=Zm HM hb_;replace hF:=hFs.z hF hb_;clear hb_;refine sA hFs hF (Stb.ed va _) hE ?_;clear hFs hF hE;intro F2 hFs hF hU gN;replace gF:=Zu gF hU;replace gE:=Zu gE hU;clear hU;dsimp only)|(refine hFs.m 0 HM hF 0 (exA { d with a:=E} { v with a:=va}) ?_;clear HM hF;intro w4 HM hF;simp only[List.set]at HM)|fail)
 go_wp2_with fail
 try simp only[Exit.inBlock,Exit.then]
 exact hPo.out va _ HM.out (gF.out _ hF.out) (gN.out _ hF.out)
def RecvPost(a0:World)(L:List (Nat×Array Value×TypeId))(B:Nat)(F:World→Prop)(f:List Int)(d:Xd)(v:Xv)(r:Ending)(w':World):Prop:=∃vb vr,r= .returned (.bool true)∧Mem a0 w' ((B,exA { d with b:=(recv d.b d.tb f d.m).1,r:=(recv d.b d.tb f d.m).2} { v with b:=vb,r:=vr},134)::L)∧F w'∧EdOwn w' vb (recv d.b d.tb f d.m).1∧MsgSub w' vr (recv d.b d.tb f d.m).2
theorem exRecv_any(f:List Int)(d:Xd)(v:Xv)(B:Nat)(a0 w:World)(L:List (Nat×Array Value×TypeId))(F:World→Prop)(h0:Mem a0 w ((B,exA d v,134)::L))(hFs:Stb F)(hF:Hid (F w))(h1:EdIs w v.b d.b)(t1:TabIs w v.tb d.tb)(f1:IntS w v.A v.nf f)(m1:MsgIs w v.m d.m):Calls Tryz.prog 148 #[.pointer (some ⟨B,0,none⟩)] w (RecvPost a0 L B F f d v):=by
 have HM:=Zh h0
 clear h0
 have uE:=Tryz.underlying32
 have uT:=Tryz.underlying37
 have uM:=Tryz.underlying30
 have cX:=fun W (hb:Below w.heap.size w W)=>receive_any d.b d.tb f d.m v.b v.tb v.m v.A v.nf v.cf W (h1.keep hb) (t1.keep hb) (f1.keep hb) (m1.keep hb)
 unfold TriOwn at cX
 generalize hP:RecvPost a0 L B F f d v=P
 have hPo:∀vb vr W,Mem a0 W ((B,exA { d with b:=(recv d.b d.tb f d.m).1,r:=(recv d.b d.tb f d.m).2} { v with b:=vb,r:=vr},134)::L)→F W→EdOwn W vb (recv d.b d.tb f d.m).1→MsgSub W vr (recv d.b d.tb f d.m).2→P (.returned (.bool true)) W:=fun vb vr W h1 h2 h3 h4=>by rw[←hP];exact⟨vb,vr,rfl,h1,h2,h3,h4⟩
 clear hP
 generalize recv d.b d.tb f d.m=RV at*
 obtain⟨E,M⟩:=RV
 generalize recvC d.b d.tb d.m=RC at*
 dsimp only at*
 have gF:Hid (∀W,F W→F W):=fun _ h=>h
 have hB0:=Zh (Below.refl w.heap.size w)
 replace cX:=Zh cX
 replace hPo:=Zh hPo
 replace uE:=Zh uE
 replace uT:=Zh uT
 replace uM:=Zh uM
 clear h1 t1 f1 m1
 go_enter Tryz.func148,Tryz.ntmps148
 go_upto_region 1 with fail
 replace hF:=Zh (hFs.keep hF.out ((Below.refl _ _).drew))
 replace HM:=Zh (HM.out.keep ((Below.refl _ _).drew))
 replace hB0:=Zh (bthen hB0.out ((Below.refl _ _).drew))
 have HMs:=Zh HM.out
 refine wp_region_two (fun w'=>Mem _ w' _) 28 [(0,1),(1,1),(2,1),(3,1),(4,1),(5,1),(6,2),(7,1),(8,1),(9,1),(10,1),(11,2),(12,1),(13,1),(14,1),(15,2),(16,1),(17,1),(18,1),(19,2),(20,0),(21,1),(22,1),(23,1),(24,1),(25,1),(26,1),(27,1),(28,0),(29,1),(30,1),(31,0)] (by kernel_rfl) (by kernel_rfl) HMs.out ?_
 clear HMs
 generalize World.drew _=wd at*
 repeat(refine p2Q ?_;try go_frame)
 refine p2Take (by rfl) (yields_mem (by rfl) _ _ (by rfl) 0 (fun w_ hSw=>hSw) (by rfl) _ (by rfl) (endA d.b v.b) (by kernel_rfl) _ uE.out (by rfl) (by exact zend)) ?_
 try go_frame
 repeat(refine p2Q ?_;try go_frame)
 refine p2Take (by rfl) (yields_mem (by rfl) _ _ (by rfl) 0 (fun w_ hSw=>hSw) (by rfl) _ (by rfl) (tabA d.tb v.tb) (by kernel_rfl) _ uT.out (by rfl) (by exact ztab)) ?_
 try go_frame
 repeat(refine p2Q ?_;try go_frame)
 refine p2Take (by rfl) (yields_memc rfl _ _ rfl 0 (fun w_ hSw=>hSw) rfl 62 rfl (.slice v.A v.nf v.cf) (by rfl) _ Tryz.underlying24 (by rfl)) ?_
 try go_frame
 repeat(refine p2Q ?_;try go_frame)
 refine p2Take (by rfl) (yields_mem (by rfl) _ _ (by rfl) 0 (fun w_ hSw=>hSw) (by rfl) _ (by rfl) (msgA d.m v.m) (by kernel_rfl) _ uM.out (by rfl) (by exact zmsg)) ?_
 try go_frame
 repeat(refine p2Q ?_;try go_frame)
 refine p2Step rfl rfl fun K hK=> ?_
 go_wp2_with(first|(go_at_call 15;refine(cX.out _ hB0.out).mono ?_;rintro r w3 ⟨vb,vr,rfl,hE,hR,hb_⟩)|fail)
 refine hK.out _ _ (fun _=>HM.out.keep hb_) fun hS_=> ?_
 clear hK K hS_
 try go_frame
 replace HM:=Zm HM hb_
 replace hF:=hFs.z hF hb_
 clear hb_ hB0 cX
 obtain⟨F2,hFs2,hF2,hU,hNw⟩:=stb_add hFs hF (Stb.ed vb _) hE
 clear hFs hF
 replace gF:=Zu gF hU
 have gN:=Zh hNw
 clear hNw hU hE
 have hFs:=hFs2
 have hF:=hF2
 clear hFs2 hF2
 obtain⟨F3,hFs2,hF2,hU,hNw⟩:=stb_add hFs hF (Stb.sub vr _) hR
 clear hFs hF
 replace gF:=Zu gF hU
 replace gN:=Zu gN hU
 have gR:=Zh hNw
 clear hNw hU hR
 have hFs:=hFs2
 have hF:=hF2
 clear hFs2 hF2
 repeat(refine p2Q ?_;try go_frame)
 refine p2Step rfl rfl fun K hK=> ?_
 go_wp2_with(first|(refine hFs.m 0 HM hF 31 (exA { d with b:=E} { v with b:=vb}) ?_;clear HM hF;intro w4 HM hF;simp only[List.set]at HM)|fail)
 refine hK.out _ _ (fun h=>absurd h (by decide)) fun hS_=> ?_
 clear hK K hS_
 try go_frame
 repeat(refine p2Q ?_;try go_frame)
 refine p2Step rfl rfl fun K hK=> ?_
 go_wp2_with(first|(refine hFs.m 0 HM hF 74 (exA { d with b:=E,r:=M} { v with b:=vb,r:=vr}) ?_;clear HM hF;intro w4 HM hF;simp only[List.set]at HM)|fail)
 refine hK.out _ _ (fun h=>absurd h (by decide)) fun hS_=> ?_
 clear hK K hS_
 try go_frame
 refine p2Done ?_
 go_wp2_with fail
 try simp only[Exit.inBlock,Exit.then]
 exact hPo.out vb vr _ HM.out (gF.out _ hF.out) (gN.out _ hF.out) (gR.out _ hF.out)
def FinPost(a0:World)(L:List (Nat×Array Value×TypeId))(B:Nat)(F:World→Prop)(d:Xd)(v:Xv)(r:Ending)(w':World):Prop:=∃va,r= .returned (.bool true)∧Mem a0 w' ((B,exA { d with a:=finN d.a d.r,code:=d.r.code} { v with a:=va},134)::L)∧F w'∧EdOwn w' va (finN d.a d.r)
theorem exFin_any(d:Xd)(v:Xv)(B:Nat)(a0 w:World)(L:List (Nat×Array Value×TypeId))(F:World→Prop)(h0:Mem a0 w ((B,exA d v,134)::L))(hFs:Stb F)(hF:Hid (F w))(h1:EdIs w v.a d.a)(m1:MsgIs w v.r d.r):Calls Tryz.prog 149 #[.pointer (some ⟨B,0,none⟩)] w (FinPost a0 L B F d v):=by
 have HM:=Zh h0
 clear h0
 have uE:=Tryz.underlying32
 have uT:=Tryz.underlying37
 have uM:=Tryz.underlying30
 have cX:=fun W (hb:Below w.heap.size w W)=>finish_any d.a d.r v.a v.r W (h1.keep hb) (m1.keep hb)
 unfold EndOwn at cX
 generalize hP:FinPost a0 L B F d v=P
 have hPo:∀va W,Mem a0 W ((B,exA { d with a:=finN d.a d.r,code:=d.r.code} { v with a:=va},134)::L)→F W→EdOwn W va (finN d.a d.r)→P (.returned (.bool true)) W:=fun va W h1 h2 h3=>by rw[←hP];exact⟨va,rfl,h1,h2,h3⟩
 clear hP
 generalize finN d.a d.r=E at*
 generalize finC d.a d.r=RC at*
 have gF:Hid (∀W,F W→F W):=fun _ h=>h
 have hB0:=Zh (Below.refl w.heap.size w)
 replace cX:=Zh cX
 replace hPo:=Zh hPo
 replace uE:=Zh uE
 replace uT:=Zh uT
 replace uM:=Zh uM
 clear h1 m1
 go_enter Tryz.func149,Tryz.ntmps149
 go_upto_region 1 with fail
 replace hF:=Zh (hFs.keep hF.out ((Below.refl _ _).drew))
 replace HM:=Zh (HM.out.keep ((Below.refl _ _).drew))
 replace hB0:=Zh (bthen hB0.out ((Below.refl _ _).drew))
 have HMs:=Zh HM.out
 refine wp_region_two (fun w'=>Mem _ w' _) 17 [(0,1),(1,1),(2,1),(3,1),(4,1),(5,2),(6,1),(7,1),(8,1),(9,2),(10,0),(11,1),(12,1),(13,1),(14,1),(15,1),(16,1),(17,0)] (by kernel_rfl) (by kernel_rfl) HMs.out ?_
 clear HMs
 generalize World.drew _=wd at*
 repeat(refine p2Q ?_;try go_frame)
 refine p2Take (by rfl) (yields_mem (by rfl) _ _ (by rfl) 0 (fun w_ hSw=>hSw) (by rfl) _ (by rfl) (endA d.a v.a) (by kernel_rfl) _ uE.out (by rfl) (by exact zend)) ?_
 try go_frame
 repeat(refine p2Q ?_;try go_frame)
 refine p2Take (by rfl) (yields_mem (by rfl) _ _ (by rfl) 0 (fun w_ hSw=>hSw) (by rfl) _ (by rfl) (msgA d.r v.r) (by kernel_rfl) _ uM.out (by rfl) (by exact zmsg)) ?_
 try go_frame
 repeat(refine p2Q ?_;try go_frame)
 refine p2Step rfl rfl fun K hK=> ?_
 go_wp2_with(first|(go_at_call 17;refine(cX.out _ hB0.out).mono ?_;rintro r w3 ⟨va,rfl,hE,hb_⟩)|fail)
 refine hK.out _ _ (fun _=>HM.out.keep hb_) fun hS_=> ?_
 clear hK K hS_
 try go_frame
 replace HM:=Zm HM hb_
 replace hF:=hFs.z hF hb_
 clear hb_ hB0 cX
 obtain⟨F2,hFs2,hF2,hU,hNw⟩:=stb_add hFs hF (Stb.ed va _) hE
 clear hFs hF
 replace gF:=Zu gF hU
 have gN:=Zh hNw
 clear hNw hU hE
 have hFs:=hFs2
 have hF:=hF2
 clear hFs2 hF2
 repeat(refine p2Q ?_;try go_frame)
 refine p2Step rfl rfl fun K hK=> ?_
 go_wp2_with(first|(refine hFs.m 0 HM hF 0 (exA { d with a:=E} { v with a:=va}) ?_;clear HM hF;intro w4 HM hF;simp only[List.set]at HM)|fail)
 refine hK.out _ _ (fun h=>absurd h (by decide)) fun hS_=> ?_
 clear hK K hS_
 try go_frame
 refine p2Done ?_
 go_upto_region 2 with fail
 have p77:=Zc HM 0 77 (.int .i64 d.r.code)
 go_upto_region 3 with(first|go_skip|(refine hFs.m 0 HM hF 81 (exA { d with a:=E,code:=d.r.code} { v with a:=va}) ?_;clear HM hF;intro w4 HM hF;simp only[List.set]at HM)|fail)
 clear p77
 go_wp2_with fail
 try simp only[Exit.inBlock,Exit.then]
 exact hPo.out va _ HM.out (gF.out _ hF.out) (gN.out _ hF.out)
theorem run1_any(lost:Bool)(nx:Value)(gp B:Nat)(w:World)(h:Box w gp #[.pointer (some ⟨B,0,none⟩)]):Calls Tryz.prog 145 #[.bool lost,nx,.pointer (some ⟨gp,0,none⟩)] w fun e w'=>e= .returned (if lost=true then .func (.func 146) #[.pointer (some ⟨B,0,none⟩)] #[]else nx)∧w=w':=by
 have k0:=h.at_ 0
 replace h:=Zh h
 go_enter Tryz.func145,Tryz.ntmps145
 cases lost
 ·go_wp2
  go_ret
  exact⟨rfl,rfl⟩
 ·go_wp2
  go_ret
  exact⟨rfl,rfl⟩
def TwicePost(a0:World)(L:List (Nat×Array Value×TypeId))(B:Nat)(F:World→Prop)(f:List Int)(d:Xd)(v:Xv)(r:Ending)(w':World):Prop:=(d.x.requestAck=true∧RecvPost a0 L B F f d v r w')∨(d.x.requestAck=false∧r= .returned (.bool true)∧Mem a0 w' ((B,exA d v,134)::L)∧F w')
theorem run2_any(f:List Int)(d:Xd)(v:Xv)(B:Nat)(a0 w:World)(L:List (Nat×Array Value×TypeId))(F:World→Prop)(h0:Mem a0 w ((B,exA d v,134)::L))(hFs:Stb F)(hF:Hid (F w))(gy gp:Nat)(hy:Box w gy (fateA d.x))(hp:Box w gp #[.pointer (some ⟨B,0,none⟩)])(h1:EdIs w v.b d.b)(t1:TabIs w v.tb d.tb)(f1:IntS w v.A v.nf f)(m1:MsgIs w v.m d.m):Calls Tryz.prog 147 #[.pointer (some ⟨gy,0,none⟩),.pointer (some ⟨gp,0,none⟩)] w (TwicePost a0 L B F f d v):=by
 have cR:=exRecv_any f d v B a0 w L F h0 hFs hF h1 t1 f1 m1
 have k2:w.cell? ⟨gy,2,none⟩=some (.bool d.x.requestAck):=hy.at_ 2
 have k0:=hp.at_ 0
 generalize hP:TwicePost a0 L B F f d v=P
 have hPo:∀W,d.x.requestAck=false→Mem a0 W ((B,exA d v,134)::L)→F W→P (.returned (.bool true)) W:=fun W h1 h2 h3=>by rw[←hP];exact .inr ⟨h1,rfl,h2,h3⟩
 have hPt:∀r W,d.x.requestAck=true→RecvPost a0 L B F f d v r W→P r W:=fun r W h1 h2=>by rw[←hP];exact .inl ⟨h1,h2⟩
 clear hP
 generalize d.x.requestAck=RA at*
 cases RA
 ·have hh:=hPo w rfl h0 hF.out
  replace hh:=Zh hh
  clear cR hPo hPt h0 hF hFs hy hp h1 t1 f1 m1
  go_enter Tryz.func147,Tryz.ntmps147
  go_wp2
  first|exact hh.out|(go_ret;exact hh.out)
 ·replace cR:=Zh cR
  replace hPt:=Zh hPt
  clear hPo h0 hF hFs hy hp h1 t1 f1 m1
  go_enter Tryz.func147,Tryz.ntmps147
  go_wp2_with(first|(go_at_call 148;refine(cR.out).mono ?_;rintro r w3 ⟨vb,vr,rfl,h3⟩;have hh:=Zh (hPt.out _ _ rfl ⟨vb,vr,rfl,h3⟩);clear h3;dsimp only)|fail)
  first|exact hh.out|(go_ret;exact hh.out)
end Tx
end Go.Proofs.YtfamifgchgolpaaGreat
