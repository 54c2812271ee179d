/- Chapter 28: the law Couples. -/
import Derived.Test.YtggpaahhgchloaaGreatSr
import Derived.Test.YtggpaahhgchloaaGreatSo
import Derived.Test.YtggpaahhgchloaaGreatSm
set_option linter.unusedVariables false
set_option linter.unusedSimpArgs false
set_option maxRecDepth 100000
set_option maxHeartbeats 16000000
namespace Go.Proofs.YtggpaahhgchloaaGreat
open Go Go.RowKit Go.Sort Go.Shelf Go.Maps
namespace Tx
open Sw Mm Pl
theorem few_small2 {t:Tab}(h:fewT t=true)(hT:TabOk t):Small2 t:=by
 unfold fewT fewC at h
 simp only[Bool.and_eq_true,Bool.or_eq_true,decide_eq_true_eq]at h
 have h1:=hT.size
 have h2:=hT.len
 exact⟨by omega,by omega⟩
theorem few_cp {c:Cpl} {nf:Nat}(h:fewCp c nf=true):nf≤1048576∧(chkCp c=0→Small2 c.left∧Small2 c.right):=by
 unfold fewCp at h
 simp only[Bool.and_eq_true,decide_eq_true_eq]at h
 obtain⟨_,_,h1,h2,h3⟩:=h
 exact⟨by omega,fun e=>⟨few_small2 h1 (chkCp_iff.1 e).2.fa.tab,few_small2 h2 (chkCp_iff.1 e).2.fb.tab⟩⟩
theorem lawCouples_any(c:Cpl)(p q:Int)(xs:List Bool)(v:CplV)(A:Option Addr)(n cl:Nat)(w:World)(h:CplIs w v c)(hl:Sls boolE 1 w A n xs):Calls Tryz.prog 6 #[.agg (cplA c v),.int .i64 p,.int .i64 q,.slice A n cl] w fun r w'=>r= .returned (.bool true)∧Below w.heap.size w w':=by
 have HM:=Zh (Mem.start w)
 obtain⟨F0,hFs,hF⟩:∃F:World→Prop,Stc F∧Hid (F w):=⟨_,Stc.true,trivial⟩
 have uC:=Tryz.underlying57
 have uT:=Tryz.underlying29
 have cAw:=fun W=>awake28_any W
 have cFw:=fun W (hb:Below w.heap.size w W)=>fewCp_any c v W (h.keep hb)
 have cN:=fun W (hb:Below w.heap.size w W) hn=>newP_any c.left c.right c.free p v.l v.r v.A v.nf v.cf W (h.l.keep hb) (h.r.keep hb) (h.f.keep hb) h.fc hn
 have cR:=fun W (hb:Below w.heap.size w W) hn=>rnew_any c.left c.right c.free p v.l v.r v.A v.nf v.cf W (h.l.keep hb) (h.r.keep hb) (h.f.keep hb) h.fc hn
 unfold NewPost at cN cR
 have cB:=fun W=>bound_any p q W
 have cBr:=fun W=>rbound_any p q W
 have cK:=fun W (hb:Below w.heap.size w W)=>chkCp_any c v W (h.keep hb)
 have cKr:=fun W (hb:Below w.heap.size w W)=>rchkCp_any c v W (h.keep hb)
 have cQ:=fun d vd ve W (h1:CplIs W vd d) (h2:CplIs W ve d)=>sameC_any d d vd ve W h1 h2
 simp only[eq_self,decide_true]at cQ
 have cL:=fun W (hb:Below w.heap.size w W) hn=>longest_any A n cl xs W (hl.keep hb) hn
 have cLr:=fun W (hb:Below w.heap.size w W) hn=>rlongest_any A n cl xs W (hl.keep hb) hn
 have hfew:=fun(e:fewCp c v.nf=true)=>(few_cp e).1
 generalize newCN c.left c.right c.free p=N9 at*
 generalize newCC c.left c.right c.free p=E9 at*
 generalize boundN p q=B9 at*
 generalize boundC p q=D9 at*
 generalize chkCp c=C9 at*
 generalize longN xs=L9 at*
 generalize fewCp c v.nf=B1 at*
 have hns:=hl.small
 unfold maxLen at hns
 replace h:=Zh h
 replace hl:=Zh hl
 replace cAw:=Zh cAw
 replace cFw:=Zh cFw
 replace cN:=Zh cN
 replace cR:=Zh cR
 replace cB:=Zh cB
 replace cBr:=Zh cBr
 replace cK:=Zh cK
 replace cKr:=Zh cKr
 replace cQ:=Zh cQ
 replace cL:=Zh cL
 replace cLr:=Zh cLr
 replace hfew:=Zh hfew
 replace uC:=Zh uC
 replace uT:=Zh uT
 go_enter Tryz.func6,Tryz.ntmps6
 have mk1:Unit:=()
 go_upto_region 1 with(first|go_skip|(clear mk1;refine wpList_boxA HM rfl 57 _ rfl _ rfl ?_;clear HM;intro gc w1 HM hG;replace hF:=Zh (hFs.keep hF.out hG.out);clear hG)|fail)
 have mk2:Unit:=()
 go_upto_region 3 with(first|go_skip|(go_at_call 26;clear mk2;refine(cAw.out _).mono ?_;rintro r w3 ⟨rfl,hb_⟩;replace HM:=Zh (HM.out.keep hb_);replace hF:=Zh (hFs.keep hF.out hb_);clear hb_;dsimp only)|fail)
 cases B1
 case false=>
  have mk3:Unit:=()
  go_wp2_with(first|go_skip|(refine wpList_loadG 0 HM (by rfl) _ _ rfl _ rfl rfl _ uC.out rfl (by exact zcp) ?_)|(go_at_call 27;clear mk3;refine(cFw.out _ HM.out.below).mono ?_;rintro r w3 ⟨rfl,hb_⟩;replace HM:=Zh (HM.out.keep hb_);replace hF:=Zh (hFs.keep hF.out hb_);clear hb_;dsimp only)|fail)
  try simp only[Exit.inBlock,Exit.then]
  go_ret
  exact⟨by first|rfl|trivial,HM.out.below⟩
 have hnf:=Zh (hfew.out rfl)
 clear hfew
 by_cases hn:100<n
 case pos=>
  have d1:decide ((100:Int)<(n:Int))=true:=decide_eq_true (by omega)
  have mk3:Unit:=()
  go_wp2_with(first|go_skip|(refine wpList_loadG 0 HM (by rfl) _ _ rfl _ rfl rfl _ uC.out rfl (by exact zcp) ?_)|(go_at_call 27;clear mk3;refine(cFw.out _ HM.out.below).mono ?_;rintro r w3 ⟨rfl,hb_⟩;replace HM:=Zh (HM.out.keep hb_);replace hF:=Zh (hFs.keep hF.out hb_);clear hb_;dsimp only)|fail)
  try simp only[Exit.inBlock,Exit.then]
  go_ret
  exact⟨by first|rfl|trivial,HM.out.below⟩
 have d1:decide ((100:Int)<(n:Int))=false:=decide_eq_false (by omega)
 have mk3:Unit:=()
 go_upto_region 5 with(first|go_skip|(refine wpList_loadG 0 HM (by rfl) _ _ rfl _ rfl rfl _ uC.out rfl (by exact zcp) ?_)|(go_at_call 27;clear mk3;refine(cFw.out _ HM.out.below).mono ?_;rintro r w3 ⟨rfl,hb_⟩;replace HM:=Zh (HM.out.keep hb_);replace hF:=Zh (hFs.keep hF.out hb_);clear hb_;dsimp only)|fail)
 clear d1 cFw cAw
 have hn2:=Zh (show n≤100000 by omega)
 clear hn
 have p62:World.cell? _ ⟨gc,62,none⟩=some (.slice v.A v.nf v.cf):=HM.out.cell 0 rfl 62
 have mk4:Unit:=()
 go_upto_region 6 with(first|go_skip|(refine wpList_loadP 0 HM (by rfl) _ _ rfl _ 56 rfl rfl (tabA c.left v.l) (by kernel_rfl) _ uT.out rfl (by exact ztab) ?_)|(refine wpList_loadP 0 HM (by rfl) _ _ rfl _ 59 rfl rfl (tabA c.right v.r) (by kernel_rfl) _ uT.out rfl (by exact ztab) ?_)|(go_at_call 28;refine(cN.out _ HM.out.below (Nat.le_trans hnf.out (by decide))).mono ?_;rintro r w3 ⟨v1,rfl,hC,hb_⟩;replace p62:=((HM.out.keep hb_).cell 0 rfl 62).trans ((HM.out.cell 0 rfl 62).symm.trans p62);replace HM:=Zh (HM.out.keep hb_);replace hF:=Zh (hFs.keep hF.out hb_);have HB:=Zh (Below.refl w3.heap.size w3);replace hC:=Zh hC;clear hb_;dsimp only)|(clear mk4;refine wpList_allocN HM rfl 57 rfl cpInfo ?_;clear HM p62;intro g9 w1 HM hG hN9;replace hF:=Zh (hFs.keep hF.out hG.out);have hf_g9:=Nat.le_trans HB.out.size hN9.out;replace HB:=Zh (bthen HB.out hG.out);clear hG hN9;have p62:World.cell? _ ⟨gc,62,none⟩=some (.slice v.A v.nf v.cf):=HM.out.cell 1 rfl 62)|(refine wpList_storeF 0 HM rfl _ _ _ rfl _ rfl rfl _ rfl (by exact zcp) (by rfl) (by rfl) ?_;have hBq:=HM.out.at_ 0 rfl;clear HM p62;intro w4 HM hG4;simp only[List.set]at HM;replace hF:=Zh (hFs.put hF.out hBq (by decide) (by decide) (by decide) hG4.out);replace HB:=Zh (HB.out.grown hG4.out HB.out.size (fun k e=>by cases e;exact hf_g9));clear hBq hG4;have p62:World.cell? _ ⟨gc,62,none⟩=some (.slice v.A v.nf v.cf):=HM.out.cell 1 rfl 62)|fail)
 clear hf_g9
 have mk5:Unit:=()
 go_upto_region 7 with(first|go_skip|(refine wpList_loadP 1 HM (by rfl) _ _ rfl _ 56 rfl rfl (tabA c.left v.l) (by kernel_rfl) _ uT.out rfl (by exact ztab) ?_)|(refine wpList_loadP 1 HM (by rfl) _ _ rfl _ 59 rfl rfl (tabA c.right v.r) (by kernel_rfl) _ uT.out rfl (by exact ztab) ?_)|(go_at_call 29;refine(cR.out _ HM.out.below hnf.out).mono ?_;rintro r w3 ⟨v2,rfl,hD,hb_⟩;replace p62:=((HM.out.keep hb_).cell 1 rfl 62).trans ((HM.out.cell 1 rfl 62).symm.trans p62);replace HM:=Zh (HM.out.keep hb_);replace hF:=Zh (hFs.keep hF.out hb_);replace hC:=Zh (hC.out.keep (bthen HB.out hb_));replace HB:=Zh (Below.refl w3.heap.size w3);replace hD:=Zh hD;clear hb_;dsimp only)|(clear mk5;refine wpList_allocN HM rfl 57 rfl cpInfo ?_;clear HM p62;intro g11 w1 HM hG hN9;replace hF:=Zh (hFs.keep hF.out hG.out);have hf_g11:=Nat.le_trans HB.out.size hN9.out;replace HB:=Zh (bthen HB.out hG.out);clear hG hN9;have p62:World.cell? _ ⟨gc,62,none⟩=some (.slice v.A v.nf v.cf):=HM.out.cell 2 rfl 62)|(refine wpList_storeF 0 HM rfl _ _ _ rfl _ rfl rfl _ rfl (by exact zcp) (by rfl) (by rfl) ?_;have hBq:=HM.out.at_ 0 rfl;clear HM p62;intro w4 HM hG4;simp only[List.set]at HM;replace hF:=Zh (hFs.put hF.out hBq (by decide) (by decide) (by decide) hG4.out);replace HB:=Zh (HB.out.grown hG4.out HB.out.size (fun k e=>by cases e;exact hf_g11));clear hBq hG4;have p62:World.cell? _ ⟨gc,62,none⟩=some (.slice v.A v.nf v.cf):=HM.out.cell 2 rfl 62)|fail)
 clear hf_g11 p62
 have mk6:Unit:=()
 go_upto_region 8 with(first|go_skip|(go_at_call 30;refine(cB.out _).mono ?_;rintro r w_ ⟨rfl,rfl⟩;dsimp only)|fail)
 go_upto_region 9 with(first|go_skip|(go_at_call 31;refine(cBr.out _).mono ?_;rintro r w_ ⟨rfl,rfl⟩;dsimp only)|fail)
 clear cN cR cB cBr
 replace hF:=Zh (hFs.keep hF.out ((Below.refl _ _).drew))
 replace HM:=Zh (HM.out.keep ((Below.refl _ _).drew))
 replace HB:=Zh (bthen HB.out ((Below.refl _ _).drew))
 have HMs:=Zh HM.out
 refine wp_region_plan (fun w'=>Mem _ w' _) 29 [(0,true),(2,true),(1,false),(3,false),(4,true),(5,true),(6,true),(7,true),(8,true),(9,true),(10,true),(11,true),(12,true),(13,true),(14,true),(15,true),(16,true),(17,true),(18,true),(19,true),(20,true),(21,true),(22,true),(23,false),(24,true),(25,true),(26,true),(28,true),(27,false)] (by kernel_rfl) (by kernel_rfl) HMs.out ?_
 generalize World.drew _=wd at*
 repeat(first|(refine plTakeL rfl (yields_memG rfl _ _ rfl 2 (fun w_ hSw=>hSw) rfl rfl _ uC.out rfl (by exact zcp)) ?_;try go_frame)|(refine plPureG rfl rfl (by intro w_ hSw;go_simp;first|done|exact rfl) ?_;try go_frame)|(refine plSkipG rfl rfl ?_;try go_frame))
 refine plStepG rfl rfl fun K hK=> ?_
 go_wp2_with(first|(go_at_call 32;refine(cK.out _ HM.out.below).mono ?_;rintro r w3 ⟨rfl,hb_⟩;dsimp only)|fail)
 refine hK.out _ _ (HMs.out.keep hb_) fun hS_=> ?_
 clear hK K hS_
 try go_frame
 replace HM:=Zh (HM.out.keep hb_)
 replace HMs:=Zh (HMs.out.keep hb_)
 replace hF:=Zh (hFs.keep hF.out hb_)
 replace HB:=Zh (bthen HB.out hb_)
 clear hb_
 refine plStepG rfl rfl fun K hK=> ?_
 go_wp2_with(first|(go_at_call 33;refine(cKr.out _ HM.out.below).mono ?_;rintro r w3 ⟨rfl,hb_⟩;dsimp only)|fail)
 refine hK.out _ _ (HMs.out.keep hb_) fun hS_=> ?_
 clear hK K hS_
 try go_frame
 replace HM:=Zh (HM.out.keep hb_)
 replace HMs:=Zh (HMs.out.keep hb_)
 replace hF:=Zh (hFs.keep hF.out hb_)
 replace HB:=Zh (bthen HB.out hb_)
 clear hb_
 repeat(first|(refine plTakeL rfl (yields_memG rfl _ _ rfl 0 (fun w_ hSw=>hSw) rfl rfl _ uC.out rfl (by exact zcp)) ?_;try go_frame)|(refine plTakeL rfl (yields_memG rfl _ _ rfl 1 (fun w_ hSw=>hSw) rfl rfl _ uC.out rfl (by exact zcp)) ?_;try go_frame)|(refine plPureG rfl rfl (by intro w_ hSw;go_simp;first|done|exact rfl) ?_;try go_frame)|(refine plSkipG rfl rfl ?_;try go_frame))
 refine plStepG rfl rfl fun K hK=> ?_
 go_wp2_with(first|(go_at_call 34;refine(cQ.out N9 v1 v2 _ (hC.out.keep HB.out) (hD.out.keep HB.out)).mono ?_;rintro r w3 ⟨rfl,hb_⟩;dsimp only)|fail)
 refine hK.out _ _ (HMs.out.keep hb_) fun hS_=> ?_
 clear hK K hS_
 try go_frame
 replace HM:=Zh (HM.out.keep hb_)
 replace HMs:=Zh (HMs.out.keep hb_)
 replace hF:=Zh (hFs.keep hF.out hb_)
 replace HB:=Zh (bthen HB.out hb_)
 clear hb_
 repeat(first|(refine plPureG rfl rfl (by intro w_ hSw;go_simp;first|done|exact rfl) ?_;try go_frame)|(refine plSkipG rfl rfl ?_;try go_frame))
 refine plStepG rfl rfl fun K hK=> ?_
 go_wp2_with(first|(go_at_call 35;refine(cL.out _ HM.out.below hn2.out).mono ?_;rintro r w3 ⟨rfl,hb_⟩;dsimp only)|fail)
 refine hK.out _ _ (HMs.out.keep hb_) fun hS_=> ?_
 clear hK K hS_
 try go_frame
 replace HM:=Zh (HM.out.keep hb_)
 replace HMs:=Zh (HMs.out.keep hb_)
 replace hF:=Zh (hFs.keep hF.out hb_)
 replace HB:=Zh (bthen HB.out hb_)
 clear hb_
 clear HMs
 refine plDone ?_
 simp only[List.drop]
 go_wp2_with(first|go_skip|(go_at_call 36;refine(cLr.out _ HM.out.below hn2.out).mono ?_;rintro r w3 ⟨rfl,hb_⟩;replace HM:=Zh (HM.out.keep hb_);clear hb_;dsimp only)|fail)
 try simp only[Exit.inBlock,Exit.then]
 go_ret
 exact⟨by first|rfl|trivial,HM.out.below⟩
theorem repairCouples_walk(x1:Int)(x3:Int)(x5:Int)(A7:Option Addr)(n8 c9:Nat)(l10:List TCl)(b12:Bool)(x13:Int)(x15:Int)(b17:Bool)(x18:Int)(x20:Int)(x22:Int)(A24:Option Addr)(n25 c26:Nat)(l27:List Spt)(A29:Option Addr)(n30 c31:Nat)(l32:List Spt)(b34:Bool)(x35:Int)(b37:Bool)(x38:Int)(x40:Int)(x42:Int)(A44:Option Addr)(n45 c46:Nat)(l47:List Spt)(A49:Option Addr)(n50 c51:Nat)(l52:List Spt)(x54:Int)(b56:Bool)(x57:Int)(x59:Int)(x61:Int)(A63:Option Addr)(n64 c65:Nat)(l66:List Spt)(A68:Option Addr)(n69 c70:Nat)(l71:List Spt)(x73:Int)(x75:Int)(x77:Int)(A79:Option Addr)(n80 c81:Nat)(l82:List TCl)(b84:Bool)(x85:Int)(x87:Int)(b89:Bool)(x90:Int)(x92:Int)(x94:Int)(A96:Option Addr)(n97 c98:Nat)(l99:List Spt)(A101:Option Addr)(n102 c103:Nat)(l104:List Spt)(b106:Bool)(x107:Int)(b109:Bool)(x110:Int)(x112:Int)(x114:Int)(A116:Option Addr)(n117 c118:Nat)(l119:List Spt)(A121:Option Addr)(n122 c123:Nat)(l124:List Spt)(x126:Int)(b128:Bool)(x129:Int)(x131:Int)(x133:Int)(A135:Option Addr)(n136 c137:Nat)(l138:List Spt)(A140:Option Addr)(n141 c142:Nat)(l143:List Spt)(x145:Int)(x147:Int)(A149:Option Addr)(n150 c151:Nat)(l152:List TCl)(x154:Int)(x156:Int)(A158:Option Addr)(n159 c160:Nat)(l161:List TCl)(A163:Option Addr)(n164 c165:Nat)(l166:List Int)(x168:Int)(x170:Int)(b172:Bool)(b173:Bool)(x174:Int)(x176:Int)(A178:Option Addr)(n179 c180:Nat)(l181:List Bool)(W:World)(h2:(Lit.int .i64 x1).wf=true)(h4:(Lit.int .i64 x3).wf=true)(h6:(Lit.int .i64 x5).wf=true)(h11:TclS W A7 n8 l10∧n8≤c9)(h14:(Lit.int .i64 x13).wf=true)(h16:(Lit.int .i64 x15).wf=true)(h19:(Lit.int .i64 x18).wf=true)(h21:(Lit.int .i64 x20).wf=true)(h23:(Lit.int .i64 x22).wf=true)(h28:SptS W A24 n25 l27∧n25≤c26)(h33:SptS W A29 n30 l32∧n30≤c31)(h36:(Lit.int .i64 x35).wf=true)(h39:(Lit.int .i64 x38).wf=true)(h41:(Lit.int .i64 x40).wf=true)(h43:(Lit.int .i64 x42).wf=true)(h48:SptS W A44 n45 l47∧n45≤c46)(h53:SptS W A49 n50 l52∧n50≤c51)(h55:(Lit.int .i64 x54).wf=true)(h58:(Lit.int .i64 x57).wf=true)(h60:(Lit.int .i64 x59).wf=true)(h62:(Lit.int .i64 x61).wf=true)(h67:SptS W A63 n64 l66∧n64≤c65)(h72:SptS W A68 n69 l71∧n69≤c70)(h74:(Lit.int .i64 x73).wf=true)(h76:(Lit.int .i64 x75).wf=true)(h78:(Lit.int .i64 x77).wf=true)(h83:TclS W A79 n80 l82∧n80≤c81)(h86:(Lit.int .i64 x85).wf=true)(h88:(Lit.int .i64 x87).wf=true)(h91:(Lit.int .i64 x90).wf=true)(h93:(Lit.int .i64 x92).wf=true)(h95:(Lit.int .i64 x94).wf=true)(h100:SptS W A96 n97 l99∧n97≤c98)(h105:SptS W A101 n102 l104∧n102≤c103)(h108:(Lit.int .i64 x107).wf=true)(h111:(Lit.int .i64 x110).wf=true)(h113:(Lit.int .i64 x112).wf=true)(h115:(Lit.int .i64 x114).wf=true)(h120:SptS W A116 n117 l119∧n117≤c118)(h125:SptS W A121 n122 l124∧n122≤c123)(h127:(Lit.int .i64 x126).wf=true)(h130:(Lit.int .i64 x129).wf=true)(h132:(Lit.int .i64 x131).wf=true)(h134:(Lit.int .i64 x133).wf=true)(h139:SptS W A135 n136 l138∧n136≤c137)(h144:SptS W A140 n141 l143∧n141≤c142)(h146:(Lit.int .i64 x145).wf=true)(h148:(Lit.int .i64 x147).wf=true)(h153:TclS W A149 n150 l152∧n150≤c151)(h155:(Lit.int .i64 x154).wf=true)(h157:(Lit.int .i64 x156).wf=true)(h162:TclS W A158 n159 l161∧n159≤c160)(h167:IntS W A163 n164 l166∧n164≤c165)(h169:(Lit.int .i64 x168).wf=true)(h171:(Lit.int .i64 x170).wf=true)(h175:(Lit.int .i64 x174).wf=true)(h177:(Lit.int .i64 x176).wf=true)(h182:(Sls boolE 1) W A178 n179 l181∧n179≤c180):Calls Tryz.prog 6 #[.agg #[.int .i64 x1,.int .i64 x3,.int .i64 x5,.slice A7 n8 c9,.bool b12,.int .i64 x13,.int .i64 x15,.bool b17,.int .i64 x18,.int .i64 x20,.int .i64 x22,.slice A24 n25 c26,.slice A29 n30 c31,.bool b34,.int .i64 x35,.bool b37,.int .i64 x38,.int .i64 x40,.int .i64 x42,.slice A44 n45 c46,.slice A49 n50 c51,.int .i64 x54,.bool b56,.int .i64 x57,.int .i64 x59,.int .i64 x61,.slice A63 n64 c65,.slice A68 n69 c70,.int .i64 x73,.int .i64 x75,.int .i64 x77,.slice A79 n80 c81,.bool b84,.int .i64 x85,.int .i64 x87,.bool b89,.int .i64 x90,.int .i64 x92,.int .i64 x94,.slice A96 n97 c98,.slice A101 n102 c103,.bool b106,.int .i64 x107,.bool b109,.int .i64 x110,.int .i64 x112,.int .i64 x114,.slice A116 n117 c118,.slice A121 n122 c123,.int .i64 x126,.bool b128,.int .i64 x129,.int .i64 x131,.int .i64 x133,.slice A135 n136 c137,.slice A140 n141 c142,.int .i64 x145,.int .i64 x147,.slice A149 n150 c151,.int .i64 x154,.int .i64 x156,.slice A158 n159 c160,.slice A163 n164 c165,.int .i64 x168,.int .i64 x170,.bool b172,.bool b173],.int .i64 x174,.int .i64 x176,.slice A178 n179 c180] W fun e w'=>e= .returned (.bool true)∧Below W.heap.size W w':=
 lawCouples_any ⟨⟨x1,x3,x5,l10,b12,x13,⟨x15,b17,x18,x20,x22,l27,l32⟩,b34,⟨x35,b37,x38,x40,x42,l47,l52⟩,⟨x54,b56,x57,x59,x61,l66,l71⟩⟩,⟨x73,x75,x77,l82,b84,x85,⟨x87,b89,x90,x92,x94,l99,l104⟩,b106,⟨x107,b109,x110,x112,x114,l119,l124⟩,⟨x126,b128,x129,x131,x133,l138,l143⟩⟩,⟨x145,x147,l152⟩,⟨x154,x156,l161⟩,l166,x168,x170,b172,b173⟩ x174 x176 l181 ⟨⟨A7,n8,c9,⟨A24,n25,c26,A29,n30,c31⟩,⟨A44,n45,c46,A49,n50,c51⟩,⟨A63,n64,c65,A68,n69,c70⟩⟩,⟨A79,n80,c81,⟨A96,n97,c98,A101,n102,c103⟩,⟨A116,n117,c118,A121,n122,c123⟩,⟨A135,n136,c137,A140,n141,c142⟩⟩,⟨A149,n150,c151⟩,⟨A158,n159,c160⟩,A163,n164,c165⟩ A178 n179 c180 W ⟨⟨h11.1,h11.2,⟨h28.1,h33.1,h28.2,h33.2⟩,⟨h48.1,h53.1,h48.2,h53.2⟩,⟨h67.1,h72.1,h67.2,h72.2⟩⟩,⟨h83.1,h83.2,⟨h100.1,h105.1,h100.2,h105.2⟩,⟨h120.1,h125.1,h120.2,h125.2⟩,⟨h139.1,h144.1,h139.2,h144.2⟩⟩,⟨h153.1,h153.2⟩,⟨h162.1,h162.2⟩,h167.1,h167.2⟩ h182.1
end Tx
end Go.Proofs.YtggpaahhgchloaaGreat
