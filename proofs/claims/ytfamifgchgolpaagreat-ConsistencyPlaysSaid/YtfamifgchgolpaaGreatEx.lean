/- Chapter 27: an exchange is run: the program's. -/
import Derived.Test.YtfamifgchgolpaaGreatCw
import Derived.Test.YtfamifgchgolpaaGreatVq
set_option linter.unusedVariables false
set_option linter.unusedSimpArgs false
set_option maxRecDepth 100000
set_option maxHeartbeats 16000000
namespace Go.Proofs.YtfamifgchgolpaaGreat
open Go Go.RowKit Go.Sort Go.Shelf Go.Maps
namespace Tx
open Sw Mm Pl
theorem Mem.front2 {a w:World} {p q r:Nat×Array Value×TypeId} {L:List (Nat×Array Value×TypeId)}(h:Mem a w (p::q::r::L)):Mem a w (r::p::q::L):=by
 have hp:(r::p::q::L).Perm (p::q::r::L):=(List.perm_middle (l₁:= [p,q]) (l₂:=L) (a:=r)).symm
 exact⟨h.below,fun e he=>h.blk e (hp.subset he),((hp.map _).nodup_iff).2 h.nodup,fun e he=>h.ge e (hp.subset he)⟩
structure RunD(a b:Ed)(ta tb:Tab)(f:List Int)(kind count:Int)(x:Fate)(vta vtb:TabV)(vb:EdV)(d:Xd)(v:Xv)(w':World):Prop where
 xa:d.a=(runN a b ta tb f kind count x).1
 xb:d.b=(runN a b ta tb f kind count x).2.1
 xcode:d.code=(runN a b ta tb f kind count x).2.2
 xta:d.ta=ta
 xtb:d.tb=tb
 xvta:v.ta=vta
 xvtb:v.tb=vtb
 xoa:EdOwn w' v.a d.a
 xob:EdOwn w' v.b d.b∨(v.b=vb∧d.b=b)
def RunPost(a b:Ed)(ta tb:Tab)(f:List Int)(kind count:Int)(x:Fate)(vta vtb:TabV)(vb:EdV)(w:World)(r:Ending)(w':World):Prop:=
 (askC a ta f kind count 0≠0∧r= .returned (.tuple #[.pointer none,.int .i64 (askC a ta f kind count 0)])∧Below w.heap.size w w')∨
 (askC a ta f kind count 0=0∧∃(gx:Nat) (d:Xd) (v:Xv),r= .returned (.tuple #[.pointer (some ⟨gx,0,none⟩),.int .i64 0])∧Mem w w' [(gx,exA d v,134)]∧RunD a b ta tb f kind count x vta vtb vb d v w')
def OwnB(vb:EdV)(b:Ed)(v:EdV)(e:Ed)(w:World):Prop:=EdOwn w v e∨(v=vb∧e=b)
theorem Stb.ownB(vb:EdV)(b:Ed)(v:EdV)(e:Ed):Stb (OwnB vb b v e):=⟨fun x hb=>x.imp (·.keep hb) id,fun x hB h1 h2 hg=>x.imp (·.put hB h1 h2 hg) id⟩
theorem pxInfo:(Tryz.prog.info? 130).map (fun i=>(i.zero,i.size,i.bytes))=some (some (.pointer none),1,8):=by kernel_rfl
theorem zpx:(Tryz.prog.info? 130).map (·.size)=some 1:=by kernel_rfl
theorem run_any(a b:Ed)(ta tb:Tab)(f:List Int)(kind count:Int)(x:Fate)(va vb:EdV)(vta vtb:TabV)(A:Option Addr)(nf cf:Nat)(w:World)(h1:EdIs w va a)(h2:EdIs w vb b)(t1:TabIs w vta ta)(t2:TabIs w vtb tb)(hf:IntS w A nf f):Calls Tryz.prog 88 #[.agg (sideA a va ta vta),.agg (sideA b vb tb vtb),.slice A nf cf,.int .i64 kind,.int .i64 count,.agg (fateA x)] w (RunPost a b ta tb f kind count x vta vtb vb w):=by
 obtain⟨rq,rp,ra,rk⟩:=x
 have HM:=Zh (Mem.start w)
 obtain⟨F0,hFs,hF⟩:∃F:World→Prop,Stb F∧Hid (F w):=⟨_,Stb.true,trivial⟩
 have uE:=Tryz.underlying32
 have uT:=Tryz.underlying37
 have uM:=Tryz.underlying30
 have uS:=Tryz.underlying128
 have uX:=Tryz.underlying134
 have uY:=Tryz.underlying40
 have uP:=Tryz.underlying130
 have cAs:=fun W (hb:Below w.heap.size w W)=>ask_any a ta va vta A nf cf f kind count 0 W (h1.keep hb) (t1.keep hb) (hf.keep hb)
 unfold TriOwn at cAs
 have hX:=ask_exp (a:=a) (ta:=ta) (f:=f) (k:=kind) (n:=count)
 have hR:runN a b ta tb f kind count ⟨rq,rp,ra,rk⟩=if(⟨rq,rp,ra,rk⟩:Fate).request=true then(closE (askE a ta f kind count 0),b,-1)else if(⟨rq,rp,ra,rk⟩:Fate).reply=true then(closE (askE a ta f kind count 0),(gotN b tb f (askN a ta f kind count 0) ⟨rq,rp,ra,rk⟩).1,-1)else(finN (askE a ta f kind count 0) (gotN b tb f (askN a ta f kind count 0) ⟨rq,rp,ra,rk⟩).2,(gotN b tb f (askN a ta f kind count 0) ⟨rq,rp,ra,rk⟩).1,(gotN b tb f (askN a ta f kind count 0) ⟨rq,rp,ra,rk⟩).2.code):=rfl
 generalize hP:RunPost a b ta tb f kind count ⟨rq,rp,ra,rk⟩ vta vtb vb w=P
 have hPn:∀W,askC a ta f kind count 0≠0→Below w.heap.size w W→P (.returned (.tuple #[.pointer none,.int .i64 (askC a ta f kind count 0)])) W:=fun W e hb=>by rw[←hP];exact .inl ⟨e,rfl,hb⟩
 have hPy:∀gx d v W,askC a ta f kind count 0=0→Mem w W [(gx,exA d v,134)]→d.a=(runN a b ta tb f kind count ⟨rq,rp,ra,rk⟩).1→d.b=(runN a b ta tb f kind count ⟨rq,rp,ra,rk⟩).2.1→d.code=(runN a b ta tb f kind count ⟨rq,rp,ra,rk⟩).2.2→d.ta=ta→d.tb=tb→v.ta=vta→v.tb=vtb→EdOwn W v.a d.a→(EdOwn W v.b d.b∨(v.b=vb∧d.b=b))→P (.returned (.tuple #[.pointer (some ⟨gx,0,none⟩),.int .i64 0])) W:=fun gx d v W e hM a1 a2 a3 a4 a5 a6 a7 a8 a9=>by rw[←hP];exact .inr ⟨e,gx,d,v,rfl,hM,⟨a1,a2,a3,a4,a5,a6,a7,a8,a9⟩⟩
 clear hP
 have hg:∀m,gotN b tb f m ⟨rq,rp,ra,rk⟩=if ra=true then recv (recv b tb f m).1 tb f m else recv b tb f m:=fun _=>rfl
 rw[hg]at hR
 clear hg
 dsimp only at hR
 generalize runN a b ta tb f kind count ⟨rq,rp,ra,rk⟩=RN at*
 generalize askE a ta f kind count 0=O at*
 generalize askN a ta f kind count 0=m at*
 generalize askC a ta f kind count 0=C at*
 replace cAs:=Zh cAs
 replace hX:=Zh hX
 replace hR:=Zh hR
 replace hPn:=Zh hPn
 replace hPy:=Zh hPy
 replace h1:=Zh h1
 replace h2:=Zh h2
 replace t1:=Zh t1
 replace t2:=Zh t2
 replace hf:=Zh hf
 replace uE:=Zh uE
 replace uT:=Zh uT
 replace uM:=Zh uM
 replace uS:=Zh uS
 replace uX:=Zh uX
 replace uY:=Zh uY
 replace uP:=Zh uP
 go_enter Tryz.func88,Tryz.ntmps88
 have mk1:Unit:=()
 have mk2:Unit:=()
 have mk3:Unit:=()
 go_upto_region 1 with(first|go_skip|(clear mk1;refine hFs.b HM hF 128 ?_;clear HM hF;intro ga w1 HM hF)|(clear mk2;refine hFs.b HM hF 128 ?_;clear HM hF;intro gb w1 HM hF)|(clear mk3;refine hFs.b HM hF 40 ?_;clear HM hF;intro gy w1 HM hF)|fail)
 refine wp_region_lit ?_
 refine lM 2 HM uS.out ?_
 try go_frame
 refine lM 1 HM uS.out ?_
 try go_frame
 refine wpList_pureX rfl (by go_simp;first|done|exact rfl) ?_
 try go_frame
 refine lM 0 HM uY.out ?_
 try go_frame
 refine wpList_pureX (v:= .agg (exA ⟨a,b,ta,tb,⟨rq,rp,ra,rk⟩,msg0,msg0,-1⟩ ⟨va,vb,vta,vtb,A,nf,cf,msgV0,msgV0⟩)) rfl (by kernel_rfl) ?_
 try go_frame
 have mk4:Unit:=()
 have mk5:Unit:=()
 go_upto_region 2 with(first|go_skip|(clear mk4;refine hFs.b HM hF 134 ?_;clear HM hF;intro gx w1 HM hF)|(clear mk5;refine wpList_allocM HM rfl 130 rfl pxInfo ?_;clear HM;intro gp w1 HM hG;replace hF:=hFs.y hF hG;clear hG;simp only[Value.cells]at HM)|(refine wpList_storeM 0 HM rfl _ _ _ rfl _ 0 rfl rfl (.pointer (some ⟨gx,0,none⟩)) rfl (by exact zpx) (by rfl) (Nat.le_of_ble_eq_true (by rfl)) (#[.pointer (some ⟨gx,0,none⟩)]) (by rfl) ?_;have hBq:=HM.out.at_ 0 rfl;clear HM;intro w4 HM hG4;simp only[List.set]at HM;replace hF:=hFs.p hF hBq hG4;clear hBq hG4)|fail)
 go_upto_region 3 with fail
 replace hF:=Zh (hFs.keep hF.out ((Below.refl _ _).drew))
 replace HM:=Zh (HM.out.keep ((Below.refl _ _).drew))
 have HMs:=Zh HM.out
 replace HMs:=Zh (HMs.out.less 1)
 simp only[List.eraseIdx]at HMs
 refine wp_region_plan (fun w'=>Mem _ w' _) 21 [(0,true),(1,true),(2,true),(3,true),(4,true),(5,true),(6,true),(7,true),(8,true),(9,false),(10,true),(11,true),(12,true),(13,true),(14,true),(15,true),(16,true),(17,false),(18,true),(19,true),(20,false)] (by kernel_rfl) (by kernel_rfl) HMs.out ?_
 generalize World.drew _=wd at*
 refine plTakeL (by rfl) (yields_memc rfl _ _ rfl 0 (fun w_ hSw=>hSw) rfl 0 rfl (.pointer (some ⟨gx,0,none⟩)) (by rfl) _ uP.out (by rfl)) ?_
 try go_frame
 refine plTakeL (by rfl) (yields_memc rfl _ _ rfl 0 (fun w_ hSw=>hSw) rfl 0 rfl (.pointer (some ⟨gx,0,none⟩)) (by rfl) _ uP.out (by rfl)) ?_
 try go_frame
 repeat(first|(refine plPure rfl rfl (by intro w_ hSw;go_simp;first|done|exact rfl) ?_;try go_frame))
 refine plTakeL (by rfl) (yields_mem (by rfl) _ _ (by rfl) 3 (fun w_ hSw=>hSw) (by rfl) _ (by rfl) (endA a va) (by kernel_rfl) _ uE.out (by rfl) (by exact zend)) ?_
 try go_frame
 repeat(first|(refine plPure rfl rfl (by intro w_ hSw;go_simp;first|done|exact rfl) ?_;try go_frame))
 refine plTakeL (by rfl) (yields_mem (by rfl) _ _ (by rfl) 3 (fun w_ hSw=>hSw) (by rfl) _ (by rfl) (tabA ta vta) (by kernel_rfl) _ uT.out (by rfl) (by exact ztab)) ?_
 try go_frame
 repeat(first|(refine plPure rfl rfl (by intro w_ hSw;go_simp;first|done|exact rfl) ?_;try go_frame))
 refine plStepL rfl rfl fun K hK=> ?_
 go_wp2_with(first|(go_at_call 11;refine(cAs.out _ HM.out.below).mono ?_;rintro r w3 ⟨vo,vm,rfl,hE,hM,hb_⟩)|fail)
 refine hK.out _ _ (HMs.out.keep hb_) fun hS_=> ?_
 clear hK K hS_
 try go_frame
 replace HM:=Zm HM hb_
 replace hF:=hFs.z hF hb_
 clear hb_ HMs cAs
 obtain⟨F1,hFs2,hF2,hU,hNw⟩:=stb_add hFs hF (Stb.ed vo _) hE
 clear hFs hF
 have gE:=Zh hNw
 clear hNw hU hE
 have hFs:=hFs2
 have hF:=hF2
 clear hFs2 hF2
 obtain⟨F2,hFs2,hF2,hU,hNw⟩:=stb_add hFs hF (Stb.sub vm _) hM
 clear hFs hF
 replace gE:=Zu gE hU
 have gM:=Zh hNw
 clear hNw hU hM
 have hFs:=hFs2
 have hF:=hF2
 clear hFs2 hF2
 repeat(first|(refine plPure rfl rfl (by intro w_ hSw;go_simp;first|done|exact rfl) ?_;try go_frame))
 refine plStepL rfl rfl fun K hK=> ?_
 go_wp2_with(first|(refine hFs.m 1 HM hF 0 (exA ⟨O,b,ta,tb,⟨rq,rp,ra,rk⟩,msg0,msg0,-1⟩ ⟨vo,vb,vta,vtb,A,nf,cf,msgV0,msgV0⟩) ?_;clear HM hF;intro w4 HM hF;simp only[List.set]at HM)|fail)
 refine hK.out _ _ (HM.out.less 1) fun hS_=> ?_
 clear hK K hS_
 try go_frame
 repeat(first|(refine plPure rfl rfl (by intro w_ hSw;go_simp;first|done|exact rfl) ?_;try go_frame))
 refine plStepL rfl rfl fun K hK=> ?_
 go_wp2_with(first|(refine hFs.m 1 HM hF 67 (exA ⟨O,b,ta,tb,⟨rq,rp,ra,rk⟩,m,msg0,-1⟩ ⟨vo,vb,vta,vtb,A,nf,cf,vm,msgV0⟩) ?_;clear HM hF;intro w4 HM hF;simp only[List.set]at HM)|fail)
 refine hK.out _ _ (HM.out.less 1) fun hS_=> ?_
 clear hK K hS_
 try go_frame
 refine plDone ?_
 simp only[List.drop]
 by_cases hC:C=0
 case neg=>
  have d1:(C !=0)=true:=by rw[bne_iff_ne];exact hC
  have hh:=Zh (fun W=>hPn.out W hC)
  go_wp2_with fail
  try simp only[Exit.inBlock,Exit.then]
  exact hh.out _ HM.out.below
 subst hC
 have hX2:=Zh (hX.out rfl)
 clear hX hPn
 go_upto_region 8 with fail
 obtain⟨k1,hv1⟩:∃k:Fn,k=if rq=true then .func 146 else .func 148:=⟨_,rfl⟩
 obtain⟨k3,hv3⟩:∃k:Fn,k=if rp=true then .func 146 else .func 149:=⟨_,rfl⟩
 have hz1:(if rq=true then .func (.func 146) #[.pointer (some ⟨gx,0,none⟩)] #[]else .func (.func 148) #[.pointer (some ⟨gx,0,none⟩)] #[])=Value.func k1 #[.pointer (some ⟨gx,0,none⟩)] #[]:=by rw[hv1];cases rq<;>rfl
 have hz3:(if rp=true then .func (.func 146) #[.pointer (some ⟨gx,0,none⟩)] #[]else .func (.func 149) #[.pointer (some ⟨gx,0,none⟩)] #[])=Value.func k3 #[.pointer (some ⟨gx,0,none⟩)] #[]:=by rw[hv3];cases rp<;>rfl
 have c1:=fun W (h:Box W gp #[.pointer (some ⟨gx,0,none⟩)])=>run1_any rq (.func (.func 148) #[.pointer (some ⟨gx,0,none⟩)] #[]) gp gx W h
 have c3:=fun W (h:Box W gp #[.pointer (some ⟨gx,0,none⟩)])=>run1_any rp (.func (.func 149) #[.pointer (some ⟨gx,0,none⟩)] #[]) gp gx W h
 rw[hz1]at c1
 rw[hz3]at c3
 clear hz1 hz3
 replace c1:=Zh c1
 replace c3:=Zh c3
 replace hv1:=Zh hv1
 replace hv3:=Zh hv3
 replace hF:=Zh (hFs.keep hF.out ((Below.refl _ _).drew))
 replace HM:=Zh (HM.out.keep ((Below.refl _ _).drew))
 have HMs:=Zh HM.out
 refine wp_region_two (fun w'=>Mem _ w' _) 16 [(0,1),(1,1),(2,2),(3,2),(4,1),(6,1),(7,1),(8,1),(9,2),(10,2),(11,1),(15,1),(5,0),(12,0),(13,0),(14,1)] (by kernel_rfl) (by kernel_rfl) HMs.out ?_
 clear HMs
 generalize World.drew _=wd at*
 repeat(refine p2Q ?_;try go_frame)
 refine p2Take (by rfl) (yields_memc rfl _ _ rfl 2 (fun w_ hSw=>hSw) rfl 0 rfl (.bool rq) (by rfl) _ Tryz.underlying4 (by rfl)) ?_
 try go_frame
 repeat(refine p2Q ?_;try go_frame)
 refine p2Take (by rfl) (yields_memc rfl _ _ rfl 0 (fun w_ hSw=>hSw) rfl 0 rfl (.pointer (some ⟨gx,0,none⟩)) (by rfl) _ uP.out (by rfl)) ?_
 try go_frame
 repeat(refine p2Q ?_;try go_frame)
 refine p2Take (by rfl) (yields_memc rfl _ _ rfl 2 (fun w_ hSw=>hSw) rfl 1 rfl (.bool rp) (by rfl) _ Tryz.underlying4 (by rfl)) ?_
 try go_frame
 repeat(refine p2Q ?_;try go_frame)
 refine p2Take (by rfl) (yields_memc rfl _ _ rfl 0 (fun w_ hSw=>hSw) rfl 0 rfl (.pointer (some ⟨gx,0,none⟩)) (by rfl) _ uP.out (by rfl)) ?_
 try go_frame
 repeat(refine p2Q ?_;try go_frame)
 refine p2Step rfl rfl fun K hK=> ?_
 go_wp2_with(first|(go_at_call 145;refine(c1.out _ (HM.out.at_ 0 rfl).box).mono ?_;rintro r w_ ⟨rfl,rfl⟩)|fail)
 refine hK.out _ _ (fun _=>HM.out) fun hS_=> ?_
 clear hK K hS_
 try go_frame
 refine p2Step rfl rfl fun K hK=> ?_
 go_wp2_with(first|(go_at_call 145;refine(c3.out _ (HM.out.at_ 0 rfl).box).mono ?_;rintro r w_ ⟨rfl,rfl⟩)|fail)
 refine hK.out _ _ (fun _=>HM.out) fun hS_=> ?_
 clear hK K hS_
 try go_frame
 have HM5:=Zh (HM.out.alloc #[.func k1 #[.pointer (some ⟨gx,0,none⟩)] #[],.func (.func 147) #[] #[.pointer (some ⟨gy,0,none⟩),.pointer (some ⟨gp,0,none⟩)],.func k3 #[.pointer (some ⟨gx,0,none⟩)] #[]] 26)
 have hF5:=Zh (hFs.keep hF.out (ball _ (.cells #[.func k1 #[.pointer (some ⟨gx,0,none⟩)] #[],.func (.func 147) #[] #[.pointer (some ⟨gy,0,none⟩),.pointer (some ⟨gp,0,none⟩)],.func k3 #[.pointer (some ⟨gx,0,none⟩)] #[]] 26)))
 refine p2Step rfl rfl fun K hK=> ?_
 go_wp2_with(first|fail|fail)
 refine hK.out _ _ (fun _=>HM.out.keep (ball _ _)) fun hS_=> ?_
 clear hK K hS_
 try go_frame
 repeat(refine p2Q ?_;try go_frame)
 refine p2Done ?_
 obtain⟨pb,hpb⟩:∃pb,pb=wd.heap.size:=⟨_,rfl⟩
 rw[←hpb]at HM5 ⊢
 clear HM hF hpb c1 c3
 generalize wd.alloc (.cells #[.func k1 #[.pointer (some ⟨gx,0,none⟩)] #[],.func (.func 147) #[] #[.pointer (some ⟨gy,0,none⟩),.pointer (some ⟨gp,0,none⟩)],.func k3 #[.pointer (some ⟨gx,0,none⟩)] #[]] 26)=w5 at*
 have HM:Hid (Mem w w5 ((gx,exA ⟨O,b,ta,tb,⟨rq,rp,ra,rk⟩,m,msg0,-1⟩ ⟨vo,vb,vta,vtb,A,nf,cf,vm,msgV0⟩,134):: [(pb,#[.func k1 #[.pointer (some ⟨gx,0,none⟩)] #[],.func (.func 147) #[] #[.pointer (some ⟨gy,0,none⟩),.pointer (some ⟨gp,0,none⟩)],.func k3 #[.pointer (some ⟨gx,0,none⟩)] #[]],26),(gp,#[.pointer (some ⟨gx,0,none⟩)],130),(gy,fateA ⟨rq,rp,ra,rk⟩,40)])):=HM5.out.front2.sub (by repeat(first|exact List.Sublist.refl _|apply List.Sublist.cons_cons|apply List.Sublist.cons))
 have hF:=hF5
 clear HM5 hF5
 have cL:∀y r vb2 vr2 W,Mem w W ((gx,exA ⟨O,y,ta,tb,⟨rq,rp,ra,rk⟩,m,r,-1⟩ ⟨vo,vb2,vta,vtb,A,nf,cf,vm,vr2⟩,134):: [(pb,#[.func k1 #[.pointer (some ⟨gx,0,none⟩)] #[],.func (.func 147) #[] #[.pointer (some ⟨gy,0,none⟩),.pointer (some ⟨gp,0,none⟩)],.func k3 #[.pointer (some ⟨gx,0,none⟩)] #[]],26),(gp,#[.pointer (some ⟨gx,0,none⟩)],130),(gy,fateA ⟨rq,rp,ra,rk⟩,40)])→F2 W→OwnB vb b vb2 y W→Calls Tryz.prog 146 #[.pointer (some ⟨gx,0,none⟩)] W fun e w'=>∃va2,e= .returned (.bool false)∧Mem w w' ((gx,exA ⟨closE O,y,ta,tb,⟨rq,rp,ra,rk⟩,m,r,-1⟩ ⟨va2,vb2,vta,vtb,A,nf,cf,vm,vr2⟩,134):: [(pb,#[.func k1 #[.pointer (some ⟨gx,0,none⟩)] #[],.func (.func 147) #[] #[.pointer (some ⟨gy,0,none⟩),.pointer (some ⟨gp,0,none⟩)],.func k3 #[.pointer (some ⟨gx,0,none⟩)] #[]],26),(gp,#[.pointer (some ⟨gx,0,none⟩)],130),(gy,fateA ⟨rq,rp,ra,rk⟩,40)])∧F2 w'∧OwnB vb b vb2 y w'∧EdOwn w' va2 (closE O):=fun y r vb2 vr2 W hM h ho=>by
  have:=exLose_any ⟨O,y,ta,tb,⟨rq,rp,ra,rk⟩,m,r,-1⟩ ⟨vo,vb2,vta,vtb,A,nf,cf,vm,vr2⟩ gx w W [(pb,#[.func k1 #[.pointer (some ⟨gx,0,none⟩)] #[],.func (.func 147) #[] #[.pointer (some ⟨gy,0,none⟩),.pointer (some ⟨gp,0,none⟩)],.func k3 #[.pointer (some ⟨gx,0,none⟩)] #[]],26),(gp,#[.pointer (some ⟨gx,0,none⟩)],130),(gy,fateA ⟨rq,rp,ra,rk⟩,40)] _ hM (hFs.and (Stb.ownB vb b vb2 y)) ⟨h,ho⟩ (gE.out _ h)
  refine this.mono ?_
  rintro e w' ⟨va2,rfl,q1,q2,q3⟩
  dsimp only at q1 q3
  rw[hX2.out]at q1 q3
  exact⟨va2,rfl,q1,q2.1,q2.2,q3⟩
 have cR:∀y r vb2 vr2 W,Mem w W ((gx,exA ⟨O,y,ta,tb,⟨rq,rp,ra,rk⟩,m,r,-1⟩ ⟨vo,vb2,vta,vtb,A,nf,cf,vm,vr2⟩,134):: [(pb,#[.func k1 #[.pointer (some ⟨gx,0,none⟩)] #[],.func (.func 147) #[] #[.pointer (some ⟨gy,0,none⟩),.pointer (some ⟨gp,0,none⟩)],.func k3 #[.pointer (some ⟨gx,0,none⟩)] #[]],26),(gp,#[.pointer (some ⟨gx,0,none⟩)],130),(gy,fateA ⟨rq,rp,ra,rk⟩,40)])→F2 W→EdIs W vb2 y→Calls Tryz.prog 148 #[.pointer (some ⟨gx,0,none⟩)] W fun e w'=>∃vb3 vr3,e= .returned (.bool true)∧Mem w w' ((gx,exA ⟨O,(recv y tb f m).1,ta,tb,⟨rq,rp,ra,rk⟩,m,(recv y tb f m).2,-1⟩ ⟨vo,vb3,vta,vtb,A,nf,cf,vm,vr3⟩,134):: [(pb,#[.func k1 #[.pointer (some ⟨gx,0,none⟩)] #[],.func (.func 147) #[] #[.pointer (some ⟨gy,0,none⟩),.pointer (some ⟨gp,0,none⟩)],.func k3 #[.pointer (some ⟨gx,0,none⟩)] #[]],26),(gp,#[.pointer (some ⟨gx,0,none⟩)],130),(gy,fateA ⟨rq,rp,ra,rk⟩,40)])∧F2 w'∧EdOwn w' vb3 (recv y tb f m).1∧MsgSub w' vr3 (recv y tb f m).2:=fun y r vb2 vr2 W hM h ho=>by
  refine(exRecv_any f ⟨O,y,ta,tb,⟨rq,rp,ra,rk⟩,m,r,-1⟩ ⟨vo,vb2,vta,vtb,A,nf,cf,vm,vr2⟩ gx w W [(pb,#[.func k1 #[.pointer (some ⟨gx,0,none⟩)] #[],.func (.func 147) #[] #[.pointer (some ⟨gy,0,none⟩),.pointer (some ⟨gp,0,none⟩)],.func k3 #[.pointer (some ⟨gx,0,none⟩)] #[]],26),(gp,#[.pointer (some ⟨gx,0,none⟩)],130),(gy,fateA ⟨rq,rp,ra,rk⟩,40)] _ hM hFs h ho (t2.out.keep hM.below) (hf.out.keep hM.below) (gM.out _ h).is).mono ?_
  rintro e w' ⟨vb3,vr3,rfl,q1,q2,q3,q4⟩
  exact⟨vb3,vr3,rfl,q1,q2,q3,q4⟩
 have cT:∀y r vb2 vr2 W,Mem w W ((gx,exA ⟨O,y,ta,tb,⟨rq,rp,ra,rk⟩,m,r,-1⟩ ⟨vo,vb2,vta,vtb,A,nf,cf,vm,vr2⟩,134):: [(pb,#[.func k1 #[.pointer (some ⟨gx,0,none⟩)] #[],.func (.func 147) #[] #[.pointer (some ⟨gy,0,none⟩),.pointer (some ⟨gp,0,none⟩)],.func k3 #[.pointer (some ⟨gx,0,none⟩)] #[]],26),(gp,#[.pointer (some ⟨gx,0,none⟩)],130),(gy,fateA ⟨rq,rp,ra,rk⟩,40)])→F2 W→EdOwn W vb2 y→MsgSub W vr2 r→Calls Tryz.prog 147 #[.pointer (some ⟨gy,0,none⟩),.pointer (some ⟨gp,0,none⟩)] W fun e w'=>∃vb3 vr3,e= .returned (.bool true)∧Mem w w' ((gx,exA ⟨O,(if ra=true then recv y tb f m else(y,r)).1,ta,tb,⟨rq,rp,ra,rk⟩,m,(if ra=true then recv y tb f m else(y,r)).2,-1⟩ ⟨vo,vb3,vta,vtb,A,nf,cf,vm,vr3⟩,134):: [(pb,#[.func k1 #[.pointer (some ⟨gx,0,none⟩)] #[],.func (.func 147) #[] #[.pointer (some ⟨gy,0,none⟩),.pointer (some ⟨gp,0,none⟩)],.func k3 #[.pointer (some ⟨gx,0,none⟩)] #[]],26),(gp,#[.pointer (some ⟨gx,0,none⟩)],130),(gy,fateA ⟨rq,rp,ra,rk⟩,40)])∧F2 w'∧EdOwn w' vb3 (if ra=true then recv y tb f m else(y,r)).1∧MsgSub w' vr3 (if ra=true then recv y tb f m else(y,r)).2:=fun y r vb2 vr2 W hM h ho hr=>by
  refine(run2_any f ⟨O,y,ta,tb,⟨rq,rp,ra,rk⟩,m,r,-1⟩ ⟨vo,vb2,vta,vtb,A,nf,cf,vm,vr2⟩ gx w W [(pb,#[.func k1 #[.pointer (some ⟨gx,0,none⟩)] #[],.func (.func 147) #[] #[.pointer (some ⟨gy,0,none⟩),.pointer (some ⟨gp,0,none⟩)],.func k3 #[.pointer (some ⟨gx,0,none⟩)] #[]],26),(gp,#[.pointer (some ⟨gx,0,none⟩)],130),(gy,fateA ⟨rq,rp,ra,rk⟩,40)] _ hM ((hFs.and (Stb.ed vb2 y)).and (Stb.sub vr2 r)) ⟨⟨h,ho⟩,hr⟩ gy gp (hM.at_ 3 rfl).box (hM.at_ 2 rfl).box ho.is (t2.out.keep hM.below) (hf.out.keep hM.below) (gM.out _ h).is).mono ?_
  rintro e w' (⟨e1,vb3,vr3,rfl,q1,q2,q3,q4⟩|⟨e1,rfl,q1,q2⟩)
  ·dsimp only at e1
   subst e1
   exact⟨vb3,vr3,rfl,q1,q2.1.1,q3,q4⟩
  ·dsimp only at e1
   subst e1
   exact⟨vb2,vr2,rfl,q1,q2.1.1,q2.1.2,q2.2⟩
 have cF:∀y r vb2 vr2 W,Mem w W ((gx,exA ⟨O,y,ta,tb,⟨rq,rp,ra,rk⟩,m,r,-1⟩ ⟨vo,vb2,vta,vtb,A,nf,cf,vm,vr2⟩,134):: [(pb,#[.func k1 #[.pointer (some ⟨gx,0,none⟩)] #[],.func (.func 147) #[] #[.pointer (some ⟨gy,0,none⟩),.pointer (some ⟨gp,0,none⟩)],.func k3 #[.pointer (some ⟨gx,0,none⟩)] #[]],26),(gp,#[.pointer (some ⟨gx,0,none⟩)],130),(gy,fateA ⟨rq,rp,ra,rk⟩,40)])→F2 W→OwnB vb b vb2 y W→MsgIs W vr2 r→Calls Tryz.prog 149 #[.pointer (some ⟨gx,0,none⟩)] W fun e w'=>∃va2,e= .returned (.bool true)∧Mem w w' ((gx,exA ⟨finN O r,y,ta,tb,⟨rq,rp,ra,rk⟩,m,r,r.code⟩ ⟨va2,vb2,vta,vtb,A,nf,cf,vm,vr2⟩,134):: [(pb,#[.func k1 #[.pointer (some ⟨gx,0,none⟩)] #[],.func (.func 147) #[] #[.pointer (some ⟨gy,0,none⟩),.pointer (some ⟨gp,0,none⟩)],.func k3 #[.pointer (some ⟨gx,0,none⟩)] #[]],26),(gp,#[.pointer (some ⟨gx,0,none⟩)],130),(gy,fateA ⟨rq,rp,ra,rk⟩,40)])∧F2 w'∧OwnB vb b vb2 y w'∧EdOwn w' va2 (finN O r):=fun y r vb2 vr2 W hM h ho hr=>by
  refine(exFin_any ⟨O,y,ta,tb,⟨rq,rp,ra,rk⟩,m,r,-1⟩ ⟨vo,vb2,vta,vtb,A,nf,cf,vm,vr2⟩ gx w W [(pb,#[.func k1 #[.pointer (some ⟨gx,0,none⟩)] #[],.func (.func 147) #[] #[.pointer (some ⟨gy,0,none⟩),.pointer (some ⟨gp,0,none⟩)],.func k3 #[.pointer (some ⟨gx,0,none⟩)] #[]],26),(gp,#[.pointer (some ⟨gx,0,none⟩)],130),(gy,fateA ⟨rq,rp,ra,rk⟩,40)] _ hM (hFs.and (Stb.ownB vb b vb2 y)) ⟨h,ho⟩ (gE.out _ h).is hr).mono ?_
  rintro e w' ⟨va2,rfl,q1,q2,q3⟩
  exact⟨va2,rfl,q1,q2.1,q2.2,q3⟩
 have cR1:=cR b msg0 vb msgV0
 have cT1:=cT (recv b tb f m).1 (recv b tb f m).2
 clear cR cT
 generalize recv b tb f m=G1 at*
 obtain⟨y1,r1⟩:=G1
 dsimp only at cR1 cT1 hR
 generalize(if ra=true then recv y1 tb f m else(y1,r1))=G2 at*
 obtain⟨y2,r2⟩:=G2
 dsimp only at cT1 hR
 have hbE:=fun(W:World) (hb:Below w.heap.size w W)=>h2.out.keep hb
 replace cL:=Zh cL
 replace cT1:=Zh cT1
 replace cR1:=Zh cR1
 replace cF:=Zh cF
 replace hbE:=Zh hbE
 go_wp2_with fail
 go_loopw[19,65] (fun _ i wr=>Hid ((i= .int .i64 0∧Mem w wr ((gx,exA ⟨O,b,ta,tb,⟨rq,rp,ra,rk⟩,m,msg0,-1⟩ ⟨vo,vb,vta,vtb,A,nf,cf,vm,msgV0⟩,134):: [(pb,#[.func k1 #[.pointer (some ⟨gx,0,none⟩)] #[],.func (.func 147) #[] #[.pointer (some ⟨gy,0,none⟩),.pointer (some ⟨gp,0,none⟩)],.func k3 #[.pointer (some ⟨gx,0,none⟩)] #[]],26),(gp,#[.pointer (some ⟨gx,0,none⟩)],130),(gy,fateA ⟨rq,rp,ra,rk⟩,40)])∧F2 wr)∨(i= .int .i64 1∧rq=false∧∃vb2 vr2,Mem w wr ((gx,exA ⟨O,y1,ta,tb,⟨rq,rp,ra,rk⟩,m,r1,-1⟩ ⟨vo,vb2,vta,vtb,A,nf,cf,vm,vr2⟩,134):: [(pb,#[.func k1 #[.pointer (some ⟨gx,0,none⟩)] #[],.func (.func 147) #[] #[.pointer (some ⟨gy,0,none⟩),.pointer (some ⟨gp,0,none⟩)],.func k3 #[.pointer (some ⟨gx,0,none⟩)] #[]],26),(gp,#[.pointer (some ⟨gx,0,none⟩)],130),(gy,fateA ⟨rq,rp,ra,rk⟩,40)])∧F2 wr∧EdOwn wr vb2 y1∧MsgSub wr vr2 r1)∨(i= .int .i64 2∧rq=false∧∃vb2 vr2,Mem w wr ((gx,exA ⟨O,y2,ta,tb,⟨rq,rp,ra,rk⟩,m,r2,-1⟩ ⟨vo,vb2,vta,vtb,A,nf,cf,vm,vr2⟩,134):: [(pb,#[.func k1 #[.pointer (some ⟨gx,0,none⟩)] #[],.func (.func 147) #[] #[.pointer (some ⟨gy,0,none⟩),.pointer (some ⟨gp,0,none⟩)],.func k3 #[.pointer (some ⟨gx,0,none⟩)] #[]],26),(gp,#[.pointer (some ⟨gx,0,none⟩)],130),(gy,fateA ⟨rq,rp,ra,rk⟩,40)])∧F2 wr∧EdOwn wr vb2 y2∧MsgSub wr vr2 r2)∨(i= .int .i64 3∧rq=false∧rp=false∧∃va2 vb2 vr2,Mem w wr ((gx,exA ⟨finN O r2,y2,ta,tb,⟨rq,rp,ra,rk⟩,m,r2,r2.code⟩ ⟨va2,vb2,vta,vtb,A,nf,cf,vm,vr2⟩,134):: [(pb,#[.func k1 #[.pointer (some ⟨gx,0,none⟩)] #[],.func (.func 147) #[] #[.pointer (some ⟨gy,0,none⟩),.pointer (some ⟨gp,0,none⟩)],.func k3 #[.pointer (some ⟨gx,0,none⟩)] #[]],26),(gp,#[.pointer (some ⟨gx,0,none⟩)],130),(gy,fateA ⟨rq,rp,ra,rk⟩,40)])∧F2 wr∧EdOwn wr va2 (finN O r2)∧OwnB vb b vb2 y2 wr))) (fun _ i _=>3-(intOf i).toNat)
 case atStart=>exact Zh (.inl ⟨rfl,HM.out,hF.out⟩)
 case round=>
  clear HM hF
  rcases hrel.out with⟨rfl,HM,hF⟩|⟨rfl,rfl,vb2,vr2,HM,hF,ho,hr⟩|⟨rfl,rfl,vb2,vr2,HM,hF,ho,hr⟩|⟨rfl,rfl,rfl,va2,vb2,vr2,HM,hF,ha,ho⟩
  ·clear hrel
   replace HM:=Zh HM
   replace hF:=Zh hF
   have p0:=Zc HM 1 0 (.func k1 #[.pointer (some ⟨gx,0,none⟩)] #[])
   cases rq
   ·obtain rfl:k1= .func 148:=hv1.out
    go_upto_region 11 with fail
    clear p0
    go_wp2_with(first|(go_at_call 148;refine(cR1.out _ HM.out hF.out (hbE.out _ HM.out.below)).mono ?_;rintro r w7 ⟨vb3,vr3,rfl,q1,q2,q3,q4⟩;clear HM hF;replace q1:=Zh q1;replace q2:=Zh q2;replace q3:=Zh q3;replace q4:=Zh q4)|fail)
    exact⟨Zh (.inr (.inl ⟨(by first|trivial|go_num),(by first|trivial|go_num),vb3,vr3,q1.out,q2.out,q3.out,q4.out⟩)),by simp[intOf]⟩
   ·obtain rfl:k1= .func 146:=hv1.out
    have hR2:=Zh (hR.out.trans (if_pos rfl))
    go_upto_region 11 with fail
    clear p0
    go_wp2_with(first|(go_at_call 146;refine(cL.out _ _ _ _ _ HM.out hF.out (.inr ⟨rfl,rfl⟩)).mono ?_;rintro r w7 ⟨va2,rfl,q1,q2,q3,q4⟩;clear HM hF;have p0:World.cell? _ ⟨gp,0,none⟩=some (.pointer (some ⟨gx,0,none⟩)):=q1.cell 2 rfl 0;replace q1:=Zh q1;replace q2:=Zh q2;replace q3:=Zh q3;replace q4:=Zh q4)|fail)
    exact hPy.out gx ⟨closE O,b,ta,tb,_,m,msg0,-1⟩ ⟨va2,vb,vta,vtb,A,nf,cf,vm,msgV0⟩ _ (by trivial) (q1.out.sub (by repeat(first|exact List.Sublist.refl _|apply List.Sublist.cons_cons|apply List.Sublist.cons))) (by rw[hR2.out]) (by rw[hR2.out]) (by rw[hR2.out]) rfl rfl rfl rfl q4.out q3.out
  ·clear hrel
   replace HM:=Zh HM
   replace hF:=Zh hF
   replace ho:=Zh ho
   replace hr:=Zh hr
   have p0:=Zc HM 1 1 (.func (.func 147) #[] #[.pointer (some ⟨gy,0,none⟩),.pointer (some ⟨gp,0,none⟩)])
   go_upto_region 11 with fail
   clear p0
   go_wp2_with(first|(go_at_call 147;refine(cT1.out _ _ _ HM.out hF.out ho.out hr.out).mono ?_;rintro r w7 ⟨vb3,vr3,rfl,q1,q2,q3,q4⟩;clear HM hF;replace q1:=Zh q1;replace q2:=Zh q2;replace q3:=Zh q3;replace q4:=Zh q4)|fail)
   exact⟨Zh (.inr (.inr (.inl ⟨(by first|trivial|go_num),(by first|trivial|go_num),vb3,vr3,q1.out,q2.out,q3.out,q4.out⟩))),by simp[intOf]⟩
  ·clear hrel
   replace HM:=Zh HM
   replace hF:=Zh hF
   replace ho:=Zh ho
   replace hr:=Zh hr
   have p0:=Zc HM 1 2 (.func k3 #[.pointer (some ⟨gx,0,none⟩)] #[])
   have hR1:=Zh (hR.out.trans (if_neg (by decide)))
   cases rp
   ·obtain rfl:k3= .func 149:=hv3.out
    go_upto_region 11 with fail
    clear p0
    go_wp2_with(first|(go_at_call 149;refine(cF.out _ _ _ _ _ HM.out hF.out (.inl ho.out) hr.out.is).mono ?_;rintro r w7 ⟨va2,rfl,q1,q2,q3,q4⟩;clear HM hF;replace q1:=Zh q1;replace q2:=Zh q2;replace q3:=Zh q3;replace q4:=Zh q4)|fail)
    exact⟨Zh (.inr (.inr (.inr ⟨(by first|trivial|go_num),(by first|trivial|go_num),(by first|trivial|go_num),va2,_,_,q1.out,q2.out,q4.out,q3.out⟩))),by simp[intOf]⟩
   ·obtain rfl:k3= .func 146:=hv3.out
    have hR2:=Zh (hR1.out.trans (if_pos rfl))
    go_upto_region 11 with fail
    clear p0
    go_wp2_with(first|(go_at_call 146;refine(cL.out _ _ _ _ _ HM.out hF.out (.inl ho.out)).mono ?_;rintro r w7 ⟨va2,rfl,q1,q2,q3,q4⟩;clear HM hF;have p0:World.cell? _ ⟨gp,0,none⟩=some (.pointer (some ⟨gx,0,none⟩)):=q1.cell 2 rfl 0;replace q1:=Zh q1;replace q2:=Zh q2;replace q3:=Zh q3;replace q4:=Zh q4)|fail)
    exact hPy.out gx ⟨closE O,y2,ta,tb,_,m,r2,-1⟩ ⟨va2,vb2,vta,vtb,A,nf,cf,vm,vr2⟩ _ (by trivial) (q1.out.sub (by repeat(first|exact List.Sublist.refl _|apply List.Sublist.cons_cons|apply List.Sublist.cons))) (by rw[hR2.out]) (by rw[hR2.out]) (by rw[hR2.out]) rfl rfl rfl rfl q4.out q3.out
  ·clear hrel
   replace HM:=Zh HM
   replace hF:=Zh hF
   replace ho:=Zh ho
   replace ha:=Zh ha
   have p0:=Zc HM 2 0 (.pointer (some ⟨gx,0,none⟩))
   have hR2:=Zh (hR.out.trans ((if_neg (by decide)).trans (if_neg (by decide))))
   go_wp2_with fail
   exact hPy.out gx ⟨finN O r2,y2,ta,tb,_,m,r2,r2.code⟩ ⟨va2,vb2,vta,vtb,A,nf,cf,vm,vr2⟩ _ (by trivial) (HM.out.sub (by repeat(first|exact List.Sublist.refl _|apply List.Sublist.cons_cons|apply List.Sublist.cons))) (by rw[hR2.out]) (by rw[hR2.out]) (by rw[hR2.out]) rfl rfl rfl rfl ha.out ho.out
end Tx
end Go.Proofs.YtfamifgchgolpaaGreat
