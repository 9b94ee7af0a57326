/- A part of the proof of TopTags: RefLink, RefTrace. Conditions: none. -/
import Derived.Test.YtdpojpcoghcieaaGreatSxBA
set_option maxHeartbeats 8000000
set_option linter.all false
namespace Go.Proofs.YtdpojpcoghcieaaGreat
open Lib renaming hid → K1
open Go.RowKit
set_option maxRecDepth 100000
open Value renaming int → U, slice → Us
open IntKind renaming i64 → O
open PlS renaming ef_ → Ac4, rd_ → Ac6, fin_ → Ac8
open After renaming go → Ac5, last → Adf
open List renaming range → Ac7, nil_append → Adi, range_succ → Adk, mem_of_getElem? → Adl, map_append → Adm
open Nat renaming zero_add → Ac9, add_assoc → Adb, add_zero → Adc, le_refl → Adh
open Mem renaming start → Ada
open World renaming size_alloc → Xad, setCells → Ade
open Below renaming refl → Adg
open IntWalk renaming i64_in → Adj
section
attribute [local go_sem] Jp neqT
theorem Sn (ms:List Ms):∀ u∈mcells ms,u.oneCell'=true:=fun u hu=>by
 obtain ⟨m,_,h⟩:=List.mem_flatMap.1 hu;exact Gp m u h
theorem Gz (w:World) (A:Option Addr) (cap n c re pk d:Nat) (hd:re+d=n) (hn:n<=1000000000) :
  Calls Tryz.prog 152 #[.agg #[U O cap,Us A n c,U O re,U O pk]] w fun e w'=>e=.returned (U O d)/\Below w.heap.size w w':=by
 have HM:=K1 ((Ada w).alloc (.cells #[U O cap,Us A n c,U O re,U O pk] 125));have hs:(n:Int)-re=d:=by omega
 have hdn:d<=1000000000:=by omega
 have hrn:re<=1000000000:=by omega
 clear hd;go_enter Tryz.func152,Tryz.ntmps152;have c1:=HM.out.cells 1 rfl;go_wp2_with fail;go_ret;exact ⟨rfl,HM.out.bel 0 rfl⟩
theorem So (w:World) (A Am:Option Addr) (cap n c re pk d nv cm:Nat) (t:Tg) (hd:re+d=n) (hn:n<=1000000000) (hf:cap<=d) :
  Calls Tryz.prog 126 #[.agg #[U O cap,Us A n c,U O re,U O pk],.agg #[U O t.step,U O t.bucket,U O t.phase,U O t.round,U O t.chunk,Us Am nv cm]] w fun e w'=>e=.returned (.tuple #[.agg #[U O cap,Us A n c,U O re,U O pk],U O 11])/\Below w.heap.size w w':=by
 have CL:=K1 (fun W=>Gz W A cap n c re pk d hd hn);obtain ⟨st,bu,ph,ro,ch⟩:=t;have hm:=(((Ada w).alloc (.cells #[U O cap,Us A n c,U O re,U O pk] 125)).alloc (.cells #[U O st,U O bu,U O ph,U O ro,U O ch,Us Am nv cm] 78)).alloc (.cells #[U O 0,Us none 0 0,U O 0,U O 0] 125);simp only [Xad] at hm;have HM:=K1 hm;clear hm hd;go_enter Tryz.func126,Tryz.ntmps126;go_wp2_with fail;refine A9 fun W1 hW=>?_;replace HM:=K1 (hW.out.symm ▸ HM.out);clear hW;refine AC (.reads [0,2,3] (.eff 1 (.reads [4] (.fin)))) 5 (fun W'=>∀ x,W'.cell? ⟨w.heap.size,x,none⟩=([U O cap,Us A n c,U O re,U O pk]:List Value)[x]?) ?_
 replace HM:=K1 HM.out.drew;generalize W1.drew=V1 at *;refine Ac6 (HM.out.cells 1 rfl) ?_;refine Ac4 ?_;go_wp2_with fail;refine (CL.out _).mono ?_;rintro e w9 ⟨rfl,hb⟩;replace HM:=K1 (HM.out.below hb);clear hb;go_wp2_with fail;refine Ac5 (HM.out.cells 1 rfl) ?_;refine Ac6 (HM.out.cells 1 rfl) ?_;refine Ac8 ?_;have hq:(cap:Int)<=d:=by omega
 have c1:=HM.out.cells 1 rfl;have c3:=HM.out.cells 3 rfl;have f3:=fun j=>HM.out.frozen 3 j rfl
 have hf4:=HM.out.fill (i:=3) rfl [U O cap,Us A n c,U O re,U O pk] rfl;simp only [Ade,Ac9] at hf4;have HF:=K1 hf4;clear hf4 HM;go_wp2_with fail;clear c1 c3 f3;have c3:=HF.out.cells 3 rfl;refine bodyPost_ret (v:=.tuple #[.agg #[U O cap,Us A n c,U O re,U O pk],U O 11]) ?_ rfl ⟨rfl,HF.out.bel 0 rfl⟩;simp [results,Tryz.results126,go_sem,c3]
theorem Sp (w:World) (A Am:Option Addr) (cap n c re pk d nv cm:Nat) (t:Tg) (vs:List Int) (ms:List Ms) (hr:Rd w w.heap.size A (mcells ms)) (hl:ms.length=n) (hv:vs.length=nv) (hd:re+d=n) (hn:n<=1000000) (hp:pk<=1000000000) (hf:d<cap) :
  Calls Tryz.prog 126 #[.agg #[U O cap,Us A n c,U O re,U O pk],.agg #[U O t.step,U O t.bucket,U O t.phase,U O t.round,U O t.chunk,Us Am nv cm]] w fun e w'=>∃ (A':Option Addr) (c' px:Nat),e=.returned (.tuple #[.agg #[U O cap,Us A' (n+1) c',U O re,U O px],U O 0])/\px<=max pk (n+1)/\(∀ q,A'=some q->w.heap.size<=q.block)/\Rd w' w'.heap.size A' (mcells (ms++[⟨t,Am,cm,vs⟩]))/\Below w.heap.size w w':=by
 have CL:=K1 (fun W=>Gz W A cap n c re pk d hd (by omega))
 obtain ⟨d1,hd1⟩:∃ d1,d1=d+1:=⟨_,rfl⟩
 have CL1:=K1 (fun W A' c'=>Gz W A' cap (n+1) c' re pk d1 (by omega) (by omega))
 obtain ⟨px,hpx⟩:∃ px,px=max pk d1:=⟨_,rfl⟩
 have hpxi:max (pk:Int) (d1:Int)=(px:Int):=by omega
 have HPX:=K1 (show px<=max pk (n+1) by omega);obtain ⟨st,bu,ph,ro,ch⟩:=t;have HLN:=K1 (show (mcells ms).length=n*6 by rw [E4,hl]);have HSN:=K1 (Jr ms ⟨⟨st,bu,ph,ro,ch⟩,Am,cm,vs⟩);have HV:=K1 hv
 have hm:=(((((Ada w).alloc (.cells #[U O cap,Us A n c,U O re,U O pk] 125)).alloc (.cells #[U O st,U O bu,U O ph,U O ro,U O ch,Us Am nv cm] 78)).alloc (.cells #[U O 0,Us none 0 0,U O 0,U O 0] 125)).add_rd (i:=0) rfl hr)
 simp only [Xad] at hm;have HM:=K1 hm;have H1:=K1 (fun u hu=>(Sn ms u hu));have hq:decide (cap<=d)=false:=decide_eq_false (by omega);have hd1b:d1<=1000001:=by omega
 have hpb:px<=1000000000:=by omega
 clear hm hd hr hl hv hpx hd1 hf;go_enter Tryz.func126,Tryz.ntmps126;go_wp2_with fail;refine A9 fun W1 hW=>?_;replace HM:=K1 (hW.out.symm ▸ HM.out);clear hW;refine AC (.reads [0,2,3] (.eff 1 (.reads [4] (.fin)))) 5 (fun W'=>∀ x,W'.cell? ⟨w.heap.size,x,none⟩=([U O cap,Us A n c,U O re,U O pk]:List Value)[x]?) ?_;replace HM:=K1 HM.out.drew;generalize W1.drew=V1 at *;refine Ac6 (HM.out.cells 1 rfl) ?_;refine Ac4 ?_;go_wp2_with fail;refine (CL.out _).mono ?_;rintro e w9 ⟨rfl,hb⟩;replace HM:=K1 (HM.out.below hb);clear hb;go_wp2_with fail;refine Ac5 (HM.out.cells 1 rfl) ?_
 refine Ac6 (HM.out.cells 1 rfl) ?_;refine Ac8 ?_;go_wp2_with fail;clear CL hq
 go_cut [5] from 12 to 27 (fun s5 W=>s5=U O 0/\∃ A' c' ba,Hid (Mem W [.bel w.heap.size w,.obj w.heap.size (.cells #[U O cap,Us A' (n+1) c',U O re,U O pk] 125 (0,0)),.obj (w.heap.size+1+1) (.cells #[U O 0,Us none 0 0,U O 0,U O 0] 125 (0,0)),.own ba 78 6 (Us A' (n+1) c') (n+1) (mcells (ms++[⟨⟨st,bu,ph,ro,ch⟩,Am,cm,vs⟩]))]/\w.heap.size<=ba))
 case first =>
  refine A9 fun W1 hW=>?_;replace HM:=K1 (hW.out.symm ▸ HM.out);clear hW;refine AC (.reads [1,2,4] (.two 0 5 (.two 3 5 (.eff 5 (.eff 6 (.reads [7] (.eff 8 (.fin))))) (.eff 3 (.eff 6 (.reads [7] (.eff 8 (.fin)))))) (.eff 0 (.eff 3 (.eff 6 (.reads [7] (.eff 8 (.fin)))))))) 8 (fun W'=>(∀ x,W'.cell? ⟨w.heap.size,x,none⟩=([U O cap,Us A n c,U O re,U O pk]:List Value)[x]?)/\(∀ x,W'.cell? ⟨w.heap.size+1,x,none⟩=([U O st,U O bu,U O ph,U O ro,U O ch,Us Am nv cm]:List Value)[x]?)) ?_;replace HM:=K1 HM.out.drew;generalize W1.drew=V1 at *;refine Ac6 ⟨HM.out.cells 1 rfl,HM.out.cells 2 rfl⟩ ?_
  refine PlS.two_ ?_ ?_
  . refine Ac4 ?_;have HBA0:=K1 (HM.out.bel 0 rfl).size;go_wp2_with fail;refine AH fun W2 hW=>?_;have HM:=K1 (hW.out.symm ▸ (HM.out.push_own ((Adg _ _).alloc (Adh _) (.cells #[] 78)) (Ii _ 78 6) rfl));clear hW;refine Ac5 ⟨HM.out.cells 1 rfl,HM.out.cells 2 rfl⟩ ?_;refine PlS.two_ ?_ ?_
    . refine Ac4 ?_;refine AQ (n:=0) rfl _ _ 62 rfl HM.out 5 E7 rfl rfl A n c (mcells ms) rfl (HM.out.rd 4 rfl) HLN.out H1.out (by omega) ?_;intro A1 c1 W5 hm5;simp only [Ac9,Adi] at hm5;have HM:=K1 hm5;clear hm5;go_wp2_with fail;refine Ac5 ⟨HM.out.cells 1 rfl,HM.out.cells 2 rfl⟩ ?_;refine Ac4 ?_;go_wp2_with fail;refine AH fun W2 hW=>?_;have HM:=K1 (hW.out.symm ▸ (HM.out.alloc (.cells #[U O st,U O bu,U O ph,U O ro,U O ch,Us Am nv cm] 78)));clear hW;refine Ac5 ⟨HM.out.cells 1 rfl,HM.out.cells 2 rfl⟩ ?_;refine Ac4 ?_
      refine AQ (n:=n) rfl _ _ 62 rfl HM.out 5 E7 rfl rfl _ 1 _ (Ms.cells ⟨⟨st,bu,ph,ro,ch⟩,Am,cm,vs⟩) rfl (by have:=HM.out.box 6 rfl;simpa [Ms.cells,Tg.cells,HV.out] using this) rfl (Gp _) (by omega) ?_;intro A2 c2 W6 hm6;rw [<- HSN.out] at hm6;have HM:=K1 hm6;clear hm6;go_wp2_with fail;refine Ac5 ⟨HM.out.cells 1 rfl,HM.out.cells 2 rfl⟩ ?_;refine Ac6 ⟨HM.out.cells 1 rfl,HM.out.cells 2 rfl⟩ ?_;refine Ac4 ?_;have c1:=HM.out.cells 1 rfl;have f1:=fun j=>HM.out.frozen 1 j rfl
      have HF:=K1 (HM.out.set (i:=1) (j:=1) rfl (Us A2 (n+1) c2));go_wp2_with fail;refine Adf (by decide) (Ac8 ?_);go_wp2_with fail;go_meet;have hpk:=HF.out.pick [0,1,3,5] [.bel w.heap.size w,.obj w.heap.size (.cells #[U O cap,Us A2 (n+1) c2,U O re,U O pk] 125 (0,0)),.obj (w.heap.size+1+1) (.cells #[U O 0,Us none 0 0,U O 0,U O 0] 125 (0,0)),.own _ 78 6 (Us A2 (n+1) c2) (n+1) (mcells (ms++[⟨⟨st,bu,ph,ro,ch⟩,Am,cm,vs⟩]))] rfl (by decide);exact ⟨rfl,A2,c2,_,K1 ⟨hpk,HBA0.out⟩⟩
    . refine Ac4 ?_;go_wp2_with fail;refine AH fun W2 hW=>?_;have HM:=K1 (hW.out.symm ▸ (HM.out.alloc (.cells #[U O st,U O bu,U O ph,U O ro,U O ch,Us Am nv cm] 78)));clear hW;refine Ac5 ⟨HM.out.cells 1 rfl,HM.out.cells 2 rfl⟩ ?_;refine Ac4 ?_;refine AQ (n:=0) rfl _ _ 62 rfl HM.out 5 E7 rfl rfl A n c (mcells ms) rfl (HM.out.rd 4 rfl) HLN.out H1.out (by omega) ?_;intro A1 c1 W5 hm5;simp only [Ac9,Adi] at hm5;have HM:=K1 hm5;clear hm5;go_wp2_with fail;refine Ac5 ⟨HM.out.cells 1 rfl,HM.out.cells 2 rfl⟩ ?_;refine Ac4 ?_
      refine AQ (n:=n) rfl _ _ 62 rfl HM.out 5 E7 rfl rfl _ 1 _ (Ms.cells ⟨⟨st,bu,ph,ro,ch⟩,Am,cm,vs⟩) rfl (by have:=HM.out.box 6 rfl;simpa [Ms.cells,Tg.cells,HV.out] using this) rfl (Gp _) (by omega) ?_;intro A2 c2 W6 hm6;rw [<- HSN.out] at hm6;have HM:=K1 hm6;clear hm6;go_wp2_with fail;refine Ac5 ⟨HM.out.cells 1 rfl,HM.out.cells 2 rfl⟩ ?_;refine Ac6 ⟨HM.out.cells 1 rfl,HM.out.cells 2 rfl⟩ ?_;refine Ac4 ?_;have c1:=HM.out.cells 1 rfl;have f1:=fun j=>HM.out.frozen 1 j rfl
      have HF:=K1 (HM.out.set (i:=1) (j:=1) rfl (Us A2 (n+1) c2));go_wp2_with fail;refine Adf (by decide) (Ac8 ?_);go_wp2_with fail;go_meet;have hpk:=HF.out.pick [0,1,3,5] [.bel w.heap.size w,.obj w.heap.size (.cells #[U O cap,Us A2 (n+1) c2,U O re,U O pk] 125 (0,0)),.obj (w.heap.size+1+1) (.cells #[U O 0,Us none 0 0,U O 0,U O 0] 125 (0,0)),.own _ 78 6 (Us A2 (n+1) c2) (n+1) (mcells (ms++[⟨⟨st,bu,ph,ro,ch⟩,Am,cm,vs⟩]))] rfl (by decide);exact ⟨rfl,A2,c2,_,K1 ⟨hpk,HBA0.out⟩⟩
  . refine Ac4 ?_;go_wp2_with fail;refine AH fun W2 hW=>?_;have HM:=K1 (hW.out.symm ▸ (HM.out.alloc (.cells #[U O st,U O bu,U O ph,U O ro,U O ch,Us Am nv cm] 78)));clear hW;refine Ac5 ⟨HM.out.cells 1 rfl,HM.out.cells 2 rfl⟩ ?_;refine Ac4 ?_;have HBA0:=K1 (HM.out.bel 0 rfl).size;go_wp2_with fail;refine AH fun W2 hW=>?_;have HM:=K1 (hW.out.symm ▸ (HM.out.push_own ((Adg _ _).alloc (Adh _) (.cells #[] 78)) (Ii _ 78 6) rfl));clear hW;refine Ac5 ⟨HM.out.cells 1 rfl,HM.out.cells 2 rfl⟩ ?_;refine Ac4 ?_
    refine AQ (n:=0) rfl _ _ 62 rfl HM.out 6 E7 rfl rfl A n c (mcells ms) rfl (HM.out.rd 4 rfl) HLN.out H1.out (by omega) ?_;intro A1 c1 W5 hm5;simp only [Ac9,Adi] at hm5;have HM:=K1 hm5;clear hm5;go_wp2_with fail;refine Ac5 ⟨HM.out.cells 1 rfl,HM.out.cells 2 rfl⟩ ?_;refine Ac4 ?_;refine AQ (n:=n) rfl _ _ 62 rfl HM.out 6 E7 rfl rfl _ 1 _ (Ms.cells ⟨⟨st,bu,ph,ro,ch⟩,Am,cm,vs⟩) rfl (by have:=HM.out.box 5 rfl;simpa [Ms.cells,Tg.cells,HV.out] using this) rfl (Gp _) (by omega) ?_;intro A2 c2 W6 hm6;rw [<- HSN.out] at hm6;have HM:=K1 hm6;clear hm6;go_wp2_with fail
    refine Ac5 ⟨HM.out.cells 1 rfl,HM.out.cells 2 rfl⟩ ?_;refine Ac6 ⟨HM.out.cells 1 rfl,HM.out.cells 2 rfl⟩ ?_;refine Ac4 ?_;have c1:=HM.out.cells 1 rfl;have f1:=fun j=>HM.out.frozen 1 j rfl
    have HF:=K1 (HM.out.set (i:=1) (j:=1) rfl (Us A2 (n+1) c2));go_wp2_with fail;refine Adf (by decide) (Ac8 ?_);go_wp2_with fail;go_meet;have hpk:=HF.out.pick [0,1,3,6] [.bel w.heap.size w,.obj w.heap.size (.cells #[U O cap,Us A2 (n+1) c2,U O re,U O pk] 125 (0,0)),.obj (w.heap.size+1+1) (.cells #[U O 0,Us none 0 0,U O 0,U O 0] 125 (0,0)),.own _ 78 6 (Us A2 (n+1) c2) (n+1) (mcells (ms++[⟨⟨st,bu,ph,ro,ch⟩,Am,cm,vs⟩]))] rfl (by decide);exact ⟨rfl,A2,c2,_,K1 ⟨hpk,HBA0.out⟩⟩
 case rest =>
  obtain ⟨rfl,A2,cB,ba,HMB⟩:=hcut;clear HM;have HBA:=K1 HMB.out.2;have HM:=K1 HMB.out.1;clear HMB;go_wp2_with fail;refine A9 fun W1 hW=>?_;replace HM:=K1 (hW.out.symm ▸ HM.out);clear hW;refine AC (.reads [0,1,2] (.eff 3 (.reads [4,5] (.eff 6 (.fin))))) 6 (fun W'=>∀ x,W'.cell? ⟨w.heap.size,x,none⟩=([U O cap,Us A2 (n+1) cB,U O re,U O pk]:List Value)[x]?) ?_;replace HM:=K1 HM.out.drew;generalize W1.drew=V1 at *;refine Ac6 (HM.out.cells 1 rfl) ?_;refine Ac4 ?_;go_wp2_with fail;refine (CL1.out _ _ _).mono ?_;rintro e w9 ⟨rfl,hb⟩;replace HM:=K1 (HM.out.below hb);clear hb;go_wp2_with fail
  refine Ac5 (HM.out.cells 1 rfl) ?_;refine Ac6 (HM.out.cells 1 rfl) ?_;refine Ac4 ?_;have c1:=HM.out.cells 1 rfl;have f1:=fun j=>HM.out.frozen 1 j rfl
  have HF:=K1 (HM.out.set (i:=1) (j:=3) rfl (U O px));clear HM;go_wp2_with fail;clear c1 f1;refine Adf (by decide) (Ac8 ?_);have c1:=HF.out.cells 1 rfl;have c2:=HF.out.cells 2 rfl;have f2:=fun j=>HF.out.frozen 2 j rfl
  have hf4:=HF.out.fill (i:=2) rfl [U O cap,Us A2 (n+1) cB,U O re,U O px] rfl;simp only [Ade,Ac9] at hf4;have HG:=K1 hf4;clear hf4 HF;go_wp2_with fail;clear c1 c2 f2;have c2:=HG.out.cells 2 rfl;refine bodyPost_ret (v:=.tuple #[.agg #[U O cap,Us A2 (n+1) cB,U O re,U O px],U O 0]) ?_ rfl ⟨A2,cB,px,rfl,HPX.out,fun q hq=>Nat.le_trans HBA.out (AF (HG.out.own 3 rfl) q hq),AJ (HG.out.own 3 rfl),HG.out.bel 0 rfl⟩;simp [results,Tryz.results126,go_sem,c2]
theorem Sq (w:World) (A:Option Addr) (cap n c pk:Nat) (t:Tg) (hn:n<=1000000) :
  Calls Tryz.prog 127 #[.agg #[U O cap,Us A n c,U O n,U O pk],.agg #[U O t.step,U O t.bucket,U O t.phase,U O t.round,U O t.chunk]] w fun e w'=>e=.returned (.tuple #[.agg #[U O cap,Us A n c,U O n,U O pk],.agg #[U O 0,U O 0,U O 0,U O 0,U O 0,Us none 0 0],U O 12])/\Below w.heap.size w w':=by
 have CL:=K1 (fun W=>Gz W A cap n c n pk 0 (by omega) (by omega));obtain ⟨st,bu,ph,ro,ch⟩:=t;have hm:=((((Ada w).alloc (.cells #[U O cap,Us A n c,U O n,U O pk] 125)).alloc (.cells #[U O st,U O bu,U O ph,U O ro,U O ch] 71)).alloc (.cells #[U O 0,Us none 0 0,U O 0,U O 0] 125)).alloc (.cells #[U O 0,U O 0,U O 0,U O 0,U O 0,Us none 0 0] 78);simp only [Xad] at hm;have HM:=K1 hm;clear hm;go_enter Tryz.func127,Tryz.ntmps127;have c1:=HM.out.cells 1 rfl;go_wp2_with fail;refine (CL.out _).mono ?_;rintro e w9 ⟨rfl,hb⟩;replace HM:=K1 (HM.out.below hb);clear hb c1;have c1:=HM.out.cells 1 rfl
 have c3:=HM.out.cells 3 rfl;have f3:=fun j=>HM.out.frozen 3 j rfl
 have c4:=HM.out.cells 4 rfl;have f4:=fun j=>HM.out.frozen 4 j rfl
 have hf4:=HM.out.fill (i:=3) rfl [U O cap,Us A n c,U O n,U O pk] rfl;have hf5:=hf4.fill (i:=4) rfl [U O 0,U O 0,U O 0,U O 0,U O 0,Us none 0 0] rfl;simp only [Ade,Ac9] at hf5;have HF:=K1 hf5;clear hf4 hf5 HM;go_wp2_with fail;clear c1 c3 c4 f3 f4;have c3:=HF.out.cells 3 rfl;have c4:=HF.out.cells 4 rfl;refine bodyPost_ret (v:=.tuple #[.agg #[U O cap,Us A n c,U O n,U O pk],.agg #[U O 0,U O 0,U O 0,U O 0,U O 0,Us none 0 0],U O 12]) ?_ rfl ⟨rfl,HF.out.bel 0 rfl⟩;simp [results,Tryz.results127,go_sem,c3,c4]
theorem Sr (w:World) (A Am:Option Addr) (cap n c re r1 pk nv cm:Nat) (t:Tg) (vs:List Int) (ms:List Ms) (hr:Rd w w.heap.size A (mcells ms)) (hm:ms[re]?=some ⟨t,Am,cm,vs⟩) (hl:ms.length=n) (hv:vs.length=nv) (hr1:r1=re+1) (hn:n<=1000000) :
  Calls Tryz.prog 127 #[.agg #[U O cap,Us A n c,U O re,U O pk],.agg #[U O t.step,U O t.bucket,U O t.phase,U O t.round,U O t.chunk]] w fun e w'=>e=.returned (.tuple #[.agg #[U O cap,Us A n c,U O r1,U O pk],.agg #[U O t.step,U O t.bucket,U O t.phase,U O t.round,U O t.chunk,Us Am nv cm],U O 0])/\Below w.heap.size w w':=by
 have hlt:re<n:=by rw [<- hl];exact (List.getElem?_eq_some_iff.1 hm).1
 obtain ⟨d,hd⟩:∃ d,re+d=n:=⟨n-re,by omega⟩
 have CL:=K1 (fun W=>Gz W A cap n c re pk d hd (by omega));obtain ⟨st,bu,ph,ro,ch⟩:=t;obtain ⟨b,o,rfl,_,_⟩:=hr (by rw [E4,hl];omega);have HC:=K1 (fun i u (hu:(Ms.cells ⟨⟨st,bu,ph,ro,ch⟩,Am,cm,vs⟩)[i]?=some u)=>Gg hm hu);have HV:=K1 hv
 have H5:=K1 (show ∀ (W:World) (M:List Ch),Mem W M->M[1]?=some (.rd (some ⟨b,o,none⟩) (mcells ms))->W.cell? ⟨b,o+re*6,none⟩=some (U O st)/\W.cell? ⟨b,o+re*6+1,none⟩=some (U O bu)/\W.cell? ⟨b,o+re*6+2,none⟩=some (U O ph)/\W.cell? ⟨b,o+re*6+3,none⟩=some (U O ro)/\W.cell? ⟨b,o+re*6+4,none⟩=some (U O ch)/\W.cell? ⟨b,o+re*6+5,none⟩=some (Us Am nv cm) from fun W M h hM=>⟨(by have:=h.rdAt 1 hM (HC.out 0 _ rfl);simpa only [Adb,Adc] using this),(by have:=h.rdAt 1 hM (HC.out 1 _ rfl);simpa only [Adb,Adc] using this),(by have:=h.rdAt 1 hM (HC.out 2 _ rfl);simpa only [Adb,Adc] using this),(by have:=h.rdAt 1 hM (HC.out 3 _ rfl);simpa only [Adb,Adc] using this),(by have:=h.rdAt 1 hM (HC.out 4 _ rfl);simpa only [Adb,Adc] using this),(by have:=h.rdAt 1 hM (HC.out 5 _ rfl);simpa only [Adb,Adc,HV.out] using this)⟩)
 have hm0:=((((((Ada w).add_rd (i:=0) rfl hr).alloc (.cells #[U O cap,Us (some ⟨b,o,none⟩) n c,U O re,U O pk] 125)).alloc (.cells #[U O st,U O bu,U O ph,U O ro,U O ch] 71)).alloc (.cells #[U O 0,Us none 0 0,U O 0,U O 0] 125)).alloc (.cells #[U O 0,U O 0,U O 0,U O 0,U O 0,Us none 0 0] 78))
 simp only [Xad] at hm0;have HM:=K1 hm0;have hd0:d≠0:=by omega
 have e1:(re:Int)+1=(r1:Int):=by omega
 have e2:IntKind.i64.wrap (r1:Int)=(r1:Int):=Adj _ (by omega);have hdb:d<=1000000:=by omega
 clear hm0 hm hl hd hr hr1 hv;go_enter Tryz.func127,Tryz.ntmps127;have c2:=HM.out.cells 2 rfl;go_wp2_with fail;refine (CL.out _).mono ?_;rintro e w9 ⟨rfl,hb⟩;replace HM:=K1 (HM.out.below hb);clear hb c2 CL;have c2:=HM.out.cells 2 rfl;obtain ⟨k0,k1,k2,k3,k4,k5⟩:=H5.out _ _ HM.out rfl;go_upto_region 4 with fail
 clear c2 k0 k1 k2 k3 k4 k5;refine A9 fun W3 hW=>?_;replace HM:=K1 (hW.out.symm ▸ (HM.out.alloc (.cells #[U O st,U O bu,U O ph,U O ro,U O ch,Us Am nv cm] 78)));clear hW;have c2:=HM.out.cells 2 rfl;have c3:=HM.out.cells 3 rfl;have c6:=HM.out.cells 6 rfl;have f2:=fun j=>HM.out.frozen 2 j rfl
 have HA:=K1 (HM.out.set (i:=2) (j:=2) rfl (U O r1));go_wp2_with fail;clear c2 c3 c6 f2 HM;have HM:=K1 HA.out;clear HA;refine A9 fun W1 hW=>?_;replace HM:=K1 (hW.out.symm ▸ HM.out);clear hW;refine AC (.reads [0,1] (.eff 2 (.eff 3 (.reads [4] (.fin))))) 5 (fun W'=>(∀ x,W'.cell? ⟨w.heap.size,x,none⟩=([U O cap,Us (some ⟨b,o,none⟩) n c,U O r1,U O pk]:List Value)[x]?)/\(∀ x,W'.cell? ⟨w9.heap.size,x,none⟩=([U O st,U O bu,U O ph,U O ro,U O ch,Us Am nv cm]:List Value)[x]?)) ?_;replace HM:=K1 HM.out.drew;generalize W1.drew=V1 at *;refine Ac6 ⟨HM.out.cells 2 rfl,HM.out.cells 6 rfl⟩ ?_;refine Ac4 ?_
 have c4:=HM.out.cells 4 rfl;have f4:=fun j=>HM.out.frozen 4 j rfl
 have hf4:=HM.out.fill (i:=4) rfl [U O cap,Us (some ⟨b,o,none⟩) n c,U O r1,U O pk] rfl;simp only [Ade,Ac9] at hf4;have HF:=K1 hf4;clear hf4 HM;go_wp2_with fail;clear c4 f4;have HM:=K1 HF.out;clear HF;refine Ac5 ⟨HM.out.cells 2 rfl,HM.out.cells 6 rfl⟩ ?_;refine Ac4 ?_;have c5:=HM.out.cells 5 rfl;have f5:=fun j=>HM.out.frozen 5 j rfl
 have hf4:=HM.out.fill (i:=5) rfl [U O st,U O bu,U O ph,U O ro,U O ch,Us Am nv cm] rfl;simp only [Ade,Ac9] at hf4;have HF:=K1 hf4;clear hf4 HM;go_wp2_with fail;clear c5 f5;have HM:=K1 HF.out;clear HF;refine Ac5 ⟨HM.out.cells 2 rfl,HM.out.cells 6 rfl⟩ ?_;refine PlS.rc_ ⟨HM.out.cells 2 rfl,HM.out.cells 6 rfl⟩ ?_;refine Ac8 ?_;have c4:=HM.out.cells 4 rfl;have c5:=HM.out.cells 5 rfl;go_wp2_with fail;refine bodyPost_ret (v:=.tuple #[.agg #[U O cap,Us (some ⟨b,o,none⟩) n c,U O r1,U O pk],.agg #[U O st,U O bu,U O ph,U O ro,U O ch,Us Am nv cm],U O 0]) ?_ rfl ⟨rfl,HM.out.bel 0 rfl⟩
 simp [results,Tryz.results127,go_sem,c4,c5]
end
section
theorem Ss:(Tryz.prog.info? 26).map (fun i=>(i.zero,i.size,i.bytes))=some (some (Us none 0 0),1,24):=by kernel_rfl
theorem J0:RowT Tryz.prog 180 26 1 24:=by
 obtain ⟨i0,hi,hz0,hz1,hz2⟩:=info_parts Ss;exact ⟨i0,_,Tryz.underlying180,hi,hz0,hz1,hz2,rfl,by decide,by decide⟩
theorem J1 {ns:List Nat} {ps:List Int} (h:In64 ps) (q k r:Nat) (vs:List Int):∀ c,-9223372036854775808<=Cq ns ps q k r vs c/\Cq ns ps q k r vs c<=9223372036854775807
 | 0=>Gx h _
 | _+1=>DJ _
def Dr (a g:Int):Int:=if a<=0 then 0 else g
def rz (ns:List Nat) (ps:List Int) (q k:Nat) (vs:List Int) (r:Nat):Int :=
 if k+1<ns.length-1 then Dr (Cq ns ps q k r vs (ns[k]?.getD 0)) (Cq ns ps q k r vs (ns[k]?.getD 0)) else Cq ns ps q k r vs (ns[k]?.getD 0)
def rlay (ns:List Nat) (ps:List Int) (q:Nat) (xs:List Int):Nat->List Int
 | 0=>xs
 | k+1=>(Ac7 (ns[k+1]?.getD 0)).map (rz ns ps q k (rlay ns ps q xs k))
theorem J4 {ns:List Nat} {ps:List Int} {q:Nat} {xs:List Int} (hx:xs.length=ns[0]?.getD 0):∀ k,(rlay ns ps q xs k).length=ns[k]?.getD 0
 | 0=>hx
 | k+1=>by simp [rlay]
theorem Mz {a g:Int} (h:-9223372036854775808<=g/\g<=9223372036854775807):-9223372036854775808<=Dr a g/\Dr a g<=9223372036854775807:=by
 unfold Dr;split <;> omega
theorem St {ns:List Nat} {ps:List Int} (h:In64 ps) (q k:Nat) (vs:List Int) (r:Nat):-9223372036854775808<=rz ns ps q k vs r/\rz ns ps q k vs r<=9223372036854775807:=by
 unfold rz
 split
 . exact Mz (J1 h _ _ _ _ _)
 . exact J1 h _ _ _ _ _
theorem M0 {ns:List Nat} {ps:List Int} (h:In64 ps) (q:Nat) {xs:List Int} (hx:In64 xs):∀ k,In64 (rlay ns ps q xs k)
 | 0=>hx
 | k+1=>fun z hz=>by
   obtain ⟨r,_,rfl⟩:=List.mem_map.1 hz;exact St h _ _ _ _
def FOk (f:Nat->List Int) (n:Nat) (ls:List Ly):Prop:=ls.map Ly.v=(Ac7 n).map f/\∀ l∈ls,l.v.length<=l.c
theorem FOk.len {f:Nat->List Int} {n:Nat} {ls:List Ly} (h:FOk f n ls):ls.length=n:=by
 have:=congrArg List.length h.1
 simpa using this
theorem FOk.at_ {f:Nat->List Int} {n:Nat} {ls:List Ly} (h:FOk f n ls) {k:Nat} (hk:k<n):∃ l,ls[k]?=some l/\l.v=f k/\l.v.length<=l.c:=by
 obtain ⟨l,hl⟩:=Au ls k (by rw [h.len];exact hk);refine ⟨l,hl,?_,h.2 l (Adl hl)⟩;have:=congrArg (·[k]?) h.1;simp only [List.getElem?_map,hl,List.getElem?_range hk,Option.map_some,Option.some.injEq] at this;exact this
theorem FOk.snoc {f:Nat->List Int} {n:Nat} {ls:List Ly} (h:FOk f n ls) {l:Ly} (hv:l.v=f n) (hc:l.v.length<=l.c):FOk f (n+1) (ls++[l]):=by
 refine ⟨?_,fun m hm=>?_⟩
 . rw [Adm,h.1,Adk,Adm];simp [hv]
 . rcases List.mem_append.1 hm with hm | hm
   . exact h.2 m hm
   . rw [List.mem_singleton.1 hm];exact hc
def E8 (base n c:Nat) (A:Option Addr) (xs:List Value):Ch:=.own base 26 1 (Us A n c) n xs
theorem Il (w:World) (m P cs cp q:Nat) (As Ap:Option Addr) (hm:1<=m/\m<=1000) :
  Calls Tryz.prog 119 #[.agg #[Us As m cs,Us Ap P cp,U O q]] w fun e w'=>e=.returned (U O ((m-1:Nat):Int))/\Below w.heap.size w w':=by
 have HM:=K1 ((Ada w).alloc (.cells #[Us As m cs,Us Ap P cp,U O q] 178));have e1:IntKind.i64.wrap ((m:Int)-1)=((m-1:Nat):Int):=by rw [show (m:Int)-1=((m-1:Nat):Int) by omega];exact Adj _ (by omega)
 go_enter Tryz.func119,Tryz.ntmps119;have c1:=HM.out.cells 1 rfl;go_wp2_with fail;go_ret;exact ⟨by go_num,HM.out.bel 0 rfl⟩
theorem Su {W w:World} {g0 k1 r cz c':Nat} {A1 A2 A':Option Addr} {v1 v2:List Value} {ls:List Ly} {zs:List Int} {o1 o2:Ch} {Az:Option Addr}
  (h:Mem W [.bel g0 w,.rd A1 v1,.rd A2 v2,AD (AO ls),o1,E8 g0 (k1+1) c' A' (AK ls++[Us Az r cz]),vOwn g0 r cz Az zs,o2]) (hz:zs.length=r) :
  Mem W [.bel g0 w,.rd A1 v1,.rd A2 v2,AD (AO (ls++[⟨Az,cz,zs⟩])),o1,E8 g0 (k1+1) c' A' (AK (ls++[⟨Az,cz,zs⟩]))]:=by
 have h1:=((h.freeze (i:=6) rfl).famSnoc (i:=3) (j:=6) rfl rfl).front 6;have e1:AK (ls++[⟨Az,cz,zs⟩])=AK ls++[Us Az r cz]:=by simp [AK,hz]
 have e2:AO (ls++[⟨Az,cz,zs⟩])=AO ls++[(Az,zC zs)]:=by simp [AO]
 rw [e1,e2];exact h1
theorem Sv (w:World) (m P cs cp q:Nat) (As Ap:Option Addr) (ns:List Nat) (ps:List Int) (h:RNet w ns ps m P cs cp q As Ap) (nx cx:Nat) (X:Option Addr) (xs:List Int) (hX:Rd w w.heap.size X (zC xs)) (hxl:xs.length=nx) (hnx:ns[0]?=some nx) (hxi:In64 xs) (hxc:nx<=cx) :
  Calls Tryz.prog 117 #[.agg #[Us As m cs,Us Ap P cp,U O q],Us X nx cx] w fun e w'=>∃ Ao co ls,e=.returned (Us Ao m co)/\FOk (rlay ns ps q xs) m ls/\Mem w' [.bel w.heap.size w,E8 w.heap.size m co Ao (AK ls),AD (AO ls)]:=by
 subst hxl;have h16:=h.few
 have hm0:=(((((Ada w).add_rd (i:=0) rfl h.sz).add_rd (i:=0) rfl h.pr).fam_add (l:=AO [⟨X,cx,xs⟩]) rfl (by intro a ha;rw [List.mem_singleton.1 ha];exact hX)).alloc (.cells #[Us As m cs,Us Ap P cp,U O q] 178))
 obtain ⟨bs,os,rfl⟩:=hm0.rdA 1 rfl (by have:=h.len;simp;omega);have hm1:=(hm0.push_own ((Adg _ _).alloc (Adh _) (.cells #[Us X xs.length cx] 26)) (LE _ _ _) rfl).lower (i:=5) (base':=w.heap.size) rfl (by simp);simp only [Xad] at hm1;have HM1:=K1 (show Mem _ [.bel w.heap.size w,.rd (some ⟨bs,os,none⟩) (zC (AX ns)),.rd Ap (zC ps),AD (AO [⟨X,cx,xs⟩]),.obj w.heap.size (.cells #[Us (some ⟨bs,os,none⟩) m cs,Us Ap P cp,U O q] 178 (0,0)),E8 w.heap.size (0+1) 1 (some ⟨w.heap.size+1,0,none⟩) (AK [⟨X,cx,xs⟩])] from hm1)
 have HOK:=K1 (show FOk (rlay ns ps q xs) (0+1) [⟨X,cx,xs⟩] from ⟨rfl,fun l hl=>by rw [List.mem_singleton.1 hl];dsimp only;omega⟩);have HD:=K1 (show ∀ k,k<m-1->∃ a b,ns[k]?=some a/\ns[k+1]?=some b/\1<=a/\1<=b/\a<=1000/\b<=1000 by intro k hk;obtain ⟨a,b,h1,h2,h3,h4,_,_,h5,h6,_⟩:=h.ok.at_ (k:=k) (by rw [h.len];exact hk);exact ⟨a,b,h1,h2,h3,h4,h5,h6⟩);have HL:=K1 h.len;have HLN:=K1 (J4 (ns:=ns) (ps:=ps) (q:=q) (xs:=xs) (by rw [hnx];rfl));have HLI:=K1 (M0 (ns:=ns) h.bd q hxi);have HRI:=K1 (fun k r vs c=>J1 (ns:=ns) h.bd q k r vs c)
 have CS:=K1 (fun W (hb:Below w.heap.size w W) k r a b cv A vs hk hva hvb hr hv hvl hvi=>Sj W m P cs cp q _ _ ns ps (h.below hb) k r a b cv A vs hk hva hvb hr hv hvl hvi);have CL:=K1 (fun W=>Il W m P cs cp q (some ⟨bs,os,none⟩) Ap (by omega))
 obtain ⟨F,hF⟩:∃ F:Nat->List Int,F=rlay ns ps q xs:=⟨_,rfl⟩
 have HFS:=K1 (show ∀ k b,ns[k+1]?=some b->F (k+1)=(Ac7 b).map (rz ns ps q k (F k)) by intro k b hb;rw [hF,rlay,hb];rfl);rw [<- hF] at HLN HLI HOK ⊢
 obtain ⟨n1,hn1⟩:∃ n1,m=n1+1:=⟨m-1,by omega⟩
 subst hn1;simp only [Nat.add_sub_cancel] at *;clear hm0 hm1 h hX hnx hxi hxc hF;have gn1:n1<=15:=by omega
 have gn2:1<=n1:=by omega
 clear h16;go_enter Tryz.func117,Tryz.ntmps117;go_wp2_with fail;generalize hg0:w.heap.size=g0 at *;have HG0:=K1 hg0;clear hg0
 go_loopw [5,6] (fun s5 s6 wr=>∃ (k:Nat) (Ao:Option Addr) (co:Nat) (ls:List Ly),k<=n1/\s5=Us Ao (k+1) co/\s6=U O k/\Hid (FOk F (k+1) ls)/\Hid (Mem wr [.bel g0 w,.rd (some ⟨bs,os,none⟩) (zC (AX ns)),.rd Ap (zC ps),AD (AO ls),.obj g0 (.cells #[Us (some ⟨bs,os,none⟩) (n1+1) cs,Us Ap P cp,U O q] 178 (0,0)),E8 g0 (k+1) co Ao (AK ls)])) (fun _ s6 _=>n1-(intOf s6).toNat)
 case atStart=>exact ⟨0,_,1,_,Nat.zero_le _,rfl,rfl,HOK,HM1⟩
 case round =>
  clear HM1 HOK;obtain ⟨k,Ao,co,ls,hk,rfl,rfl,HOK,HM⟩:=hrel;have c4:=HM.out.cells 4 rfl
  by_cases hlt:k<n1
  . obtain ⟨a,b,ha,hb,h1,h2,h3,h4⟩:=HD.out k hlt;have GB:=K1 (Bk (Dp hb));have hfs:=HFS.out k b hb;obtain ⟨l,hl,hlv,hlc⟩:=HOK.out.at_ (show k<k+1 by omega);have hll:l.v.length=a:=by rw [hlv,HLN.out k,ha];rfl
    have hin:=HLI.out k;rw [<- hlv] at hfs hin;have HLV:=K1 (show (AK ls)[k]?=some (Us l.A a l.c) by simp [AK,hl,hll]);have HLF:=K1 (show (AO ls)[k]?=some (l.A,zC l.v) by simp [AO,hl]);have CSk:=K1 (fun W (hb0:Below g0 w W) r hr hv=>CS.out W hb0 k r a b l.c l.A l.v (by omega) ha hb hr hv hll hin);have HRk:=K1 (fun r=>HRI.out k r l.v a);have HZ:=K1 (show ∀ r,rz ns ps q k l.v r=if k+1<n1 then Dr (Cq ns ps q k r l.v a) (Cq ns ps q k r l.v a) else Cq ns ps q k r l.v a by intro r;rw [rz,HL.out,ha];rfl)
    obtain ⟨k1,hk1⟩:∃ k1,k1=k+1:=⟨_,rfl⟩
    have hk1i:(k:Int)+1=(k1:Int):=by omega
    have wk1:IntKind.i64.wrap (k1:Int)=(k1:Int):=Adj _ (by omega);rw [<- hk1] at GB hfs HZ HM HOK ⊢;have hk1n:(0:Int)<=(k1:Int)/\(k1:Int)<((n1+1:Nat):Int):=by omega
    have hkk1:(0:Int)<=(k:Int)/\(k:Int)<(k1:Int):=by omega
    have hk16:k1<=16:=by omega
    have hkN:k<k1:=by omega
    have HK1:=K1 hk1;obtain ⟨go,rfl⟩:=HM.out.ownA 5 rfl (by omega);generalize l.A=lA at *;generalize l.c=lc at *;generalize l.v=lv at *;have HFS2:=K1 hfs;clear hfs hl hlv hlc ha hb hk1 hll hin HLN
    obtain ⟨Z,hZ⟩:∃ f:Nat->Int,f=rz ns ps q k lv:=⟨_,rfl⟩
    obtain ⟨S,hS⟩:∃ f:Nat->Int,f=fun r=>Cq ns ps q k r lv a:=⟨_,rfl⟩
    have HSS:=K1 (show ∀ r,Cq ns ps q k r lv a=S r by intro r;rw [hS]);have HZZ:=K1 (show ∀ r,rz ns ps q k lv r=Z r by intro r;rw [hZ]);rw [<- hZ] at HFS2;clear hZ hS;have hm7:=HM.out.add (c:=.own g0 2 1 (Us none 0 0) 0 (zC ((Ac7 0).map Z))) ⟨Bh _ _ _ _,by have h1:=(HM.out.bel 0 rfl).size;have h2:=HG0.out;omega⟩ (fun _ _ _ _ g hg=>by cases hg);have HM7:=K1 hm7;clear hm7;go_wp2_with fail;refine (CL.out _).mono ?_;rintro e w3 ⟨rfl,hb3⟩;replace HM7:=K1 (HM7.out.below hb3);clear hb3 c4;go_wp2_with fail
    go_loopw [7,8] (fun s7 s8 wr=>∃ (r:Nat) (Az:Option Addr) (cz:Nat),r<=b/\s7=Us Az r cz/\s8=U O r/\Hid (Mem wr [.bel g0 w,.rd (some ⟨bs,os,none⟩) (zC (AX ns)),.rd Ap (zC ps),AD (AO ls),.obj g0 (.cells #[Us (some ⟨bs,os,none⟩) (n1+1) cs,Us Ap P cp,U O q] 178 (0,0)),E8 g0 k1 co (some ⟨go,0,none⟩) (AK ls),vOwn g0 r cz Az ((Ac7 r).map Z)])) (fun _ s8 _=>b-(intOf s8).toNat)
    case atStart=>exact ⟨0,none,0,Nat.zero_le _,rfl,rfl,HM7⟩
    case round =>
     clear HM7 HM;obtain ⟨r,Az,cz,hr,rfl,rfl,HM⟩:=hrel;have c4:=HM.out.cells 4 rfl;have c1:=HM.out.rdAt 1 rfl GB.out
     by_cases hrb:r<b
     . go_wp2_with fail;clear c4 c1;refine A9 fun W0 hW=>?_;replace HM:=K1 (hW.out.symm ▸ HM.out);clear hW;refine AC (.reads [0,1,2,3,4,5,6] (.eff 7 (.reads [8] (.fin)))) 9 (fun W'=>(∀ j,W'.cell? ⟨g0,j,none⟩=([Us (some ⟨bs,os,none⟩) (n1+1) cs,Us Ap P cp,U O q]:List Value)[j]?)/\W'.cell? ⟨go,k,none⟩=some (Us lA a lc)) ?_;replace HM:=K1 HM.out.drew;generalize W0.drew=V at *;refine Ac6 ⟨HM.out.cells 4 rfl,((HM.out.own 5 rfl).cellAt k (by omega)).trans HLV.out⟩ ?_;refine Ac4 ?_;go_wp2_with fail;refine (CSk.out _ (HM.out.bel 0 rfl) r hrb (HM.out.st 3 rfl (lA,zC lv) (Adl HLF.out))).mono ?_
       rintro e w2 ⟨rfl,hb2⟩;replace HM:=K1 (HM.out.below hb2);rw [HSS.out];clear hb2;go_wp2_with fail;refine Ac5 ⟨HM.out.cells 4 rfl,((HM.out.own 5 rfl).cellAt k (by omega)).trans HLV.out⟩ ?_;refine PlS.rc_ ⟨HM.out.cells 4 rfl,((HM.out.own 5 rfl).cellAt k (by omega)).trans HLV.out⟩ ?_;refine Ac8 ?_;have c4:=HM.out.cells 4 rfl;have hz:=HZ.out r;rw [HZZ.out,HSS.out] at hz;go_wp2_with fail;refine (CL.out _).mono ?_;rintro e w3 ⟨rfl,hb3⟩;replace HM:=K1 (HM.out.below hb3);clear hb3 c4
       by_cases hl1:k1<n1
       . rw [if_pos hl1] at hz;go_wp2_with fail;refine (LI _ _ _).mono ?_;rintro e w4 ⟨rfl,rfl⟩;rw [show (if S r<=0 then 0 else S r)=Dr (S r) (S r) from rfl,<- hz];have HZ1:=K1 hz;clear hz;have HM3:=K1 (HM.out.alloc (.cells #[U O (Z r)] 2))
         go_wp2_with (at_builtin;refine AQ (n:=r) rfl _ _ 26 rfl HM3.out 6 DQ rfl rfl _ 1 _ [U O (Z r)] rfl (HM3.out.box 7 rfl) rfl (by intro u hu;simp at hu;subst hu;rfl) (by omega) ?_;intro AZ' cZ' W4 hM4;have HM4:=K1 (hM4.front 7);clear hM4 HM3)
         have HE:=K1 (show zC ((Ac7 (r+1)).map Z)=zC ((Ac7 r).map Z)++[U O (Z r)] by rw [Adk];simp );go_roundw
         case rel=>exact ⟨r+1,AZ',cZ',by omega,rfl,by go_num,K1 (by unfold vOwn;rw [HE.out];exact HM4.out)⟩
         case measure=>simp [intOf];omega
       . rw [if_neg hl1] at hz;have HZ1:=K1 hz;clear hz;have HM3:=K1 (HM.out.alloc (.cells #[U O (S r)] 2))
         go_wp2_with (at_builtin;refine AQ (n:=r) rfl _ _ 26 rfl HM3.out 6 DQ rfl rfl _ 1 _ [U O (S r)] rfl (HM3.out.box 7 rfl) rfl (by intro u hu;simp at hu;subst hu;rfl) (by omega) ?_;intro AZ' cZ' W4 hM4;have HM4:=K1 (hM4.front 7);clear hM4 HM3)
         have HE:=K1 (show zC ((Ac7 (r+1)).map Z)=zC ((Ac7 r).map Z)++[U O (S r)] by rw [Adk];simp [HZ1.out]);go_roundw
         case rel=>exact ⟨r+1,AZ',cZ',by omega,rfl,by go_num,K1 (by unfold vOwn;rw [HE.out];exact HM4.out)⟩
         case measure=>simp [intOf];omega
     . have hrb2:r=b:=by omega
       subst hrb2;have HM3:=K1 (HM.out.alloc (.cells #[Us Az r cz] 26));have hcz:=Be (HM.out.own 6 rfl)
       go_wp2_with (at_builtin;refine AQ (n:=k1) rfl _ _ 180 rfl HM3.out 5 J0 rfl rfl _ 1 _ [Us Az r cz] rfl (HM3.out.box 7 rfl) rfl (by intro u hu;simp at hu;subst hu;rfl) (by omega) ?_;intro AO' cO' W4 hM4;have HM4:=K1 hM4;clear hM4 HM3)
       replace HM4:=K1 (Su HM4.out (by simp));go_roundw
       case rel=>exact ⟨k1,AO',cO',ls++[⟨Az,cz,(Ac7 r).map Z⟩],by omega,rfl,by go_num,K1 (HOK.out.snoc HFS2.out.symm (by simpa using hcz)),HM4⟩
       case measure=>simp [intOf];omega
  . have hkn:k=n1:=by omega
    subst hkn;go_wp2_with fail;refine (CL.out _).mono ?_;rintro e w3 ⟨rfl,hb3⟩;replace HM:=K1 (HM.out.below hb3);clear hb3 c4;go_wp2_with fail;go_ret;rw [HG0.out];exact ⟨Ao,co,ls,rfl,HOK.out,HM.out.pick [0,5,3] _ rfl (by decide)⟩
end
end Go.Proofs.YtdpojpcoghcieaaGreat
