/- Law 54, DefragCounts: a part of the proof. -/
import GoSem.ClaimLaidByText
import GoSem.ClaimSeven
import Derived.KernelRfl
import Derived.Test.YtihcgekdnljahaaGreatDoorProg
import GoSem.ClaimFn
section
namespace Go.Proofs.YtihcgekdnljahaaGreatDoor
open Go
theorem worded_list(P:Program)(word:String)(b:Bool)(h:(P.funcs.toList.any fun fn=>fn.body.isNone&&fn.name==word)=b):P.worded word=b:=by
 unfold Program.worded
 rw[←Array.any_toList]
 exact h
def posOf(p:Func→Bool):Nat→List Func→List Nat
 |_,[]=>[]
 |k,f::r=>if p f then k::posOf p (k+1) r else posOf p (k+1) r
theorem posOf_range(p:Func→Bool): ∀(L:List Func) (k:Nat),posOf p k L=(List.range' k L.length).filter fun i=>(L[i-k]?).any p
 |[],k=>rfl
 |f::r,k=>by
  rw[List.length_cons,List.range'_succ,List.filter_cons]
  have ih:=posOf_range p r (k+1)
  have e:(List.range' (k+1) r.length).filter (fun i=>((f::r)[i-k]?).any p)=(List.range' (k+1) r.length).filter (fun i=>(r[i-(k+1)]?).any p):=by
   apply List.filter_congr
   intro i hi
   obtain ⟨h1,h2⟩:=List.mem_range'_1.1 hi
   have:i-k=(i-(k+1))+1:=by omega
   rw[this,List.getElem?_cons_succ]
  rw[e, ←ih]
  simp only[Nat.sub_self,List.getElem?_cons_zero,Option.any_some]
  cases hp:p f <;> simp[posOf,hp]
theorem funcNamed_at(P:Program)(name:String)(i:Nat)(h:posOf (fun fn=>fn.name==name) 0 P.funcs.toList=[i]):P.funcNamed name=some i:=by
 unfold Program.funcNamed
 have e:(List.range P.funcs.size).filter (fun i=>(P.funcs[i]?).any (·.name==name))=[i]:=by
  rw[←h,posOf_range,List.range_eq_range']
  simp
 rw[e]
end Go.Proofs.YtihcgekdnljahaaGreatDoor
end
section
namespace Go.Proofs.YtihcgekdnljahaaGreatDoor
open Go
def nbs(P:Program)(f:FuncId):List FuncId:=(P.funcs[f]?).elim [] P.leadsTo
noncomputable def fastStep(nb:Nat→List Nat)(ih:List Nat→Nat→List Nat→Option (List Nat))(todo:List Nat)(m:Nat)(seen:List Nat):Option (List Nat):=
 List.rec (motive:=fun _=>Option (List Nat)) (some seen.reverse) (fun f t _=>Bool.rec (motive:=fun _=>Option (List Nat)) (ih (nb f++t) (m ||| (1 <<< f)) (f::seen)) (ih t m seen) (m.testBit f)) todo
noncomputable def fastC(nb:Nat→List Nat)(n:Nat):List Nat→Nat→List Nat→Option (List Nat):=
 Nat.rec (motive:=fun _=>List Nat→Nat→List Nat→Option (List Nat)) (fun _ _ _=>none) (fun _ ih=>fastStep nb ih) n
theorem fastC_sound(P:Program): ∀(n:Nat) (todo:List Nat) (m:Nat) (seen r:List Nat),(∀g,m.testBit g=seen.contains g)→fastC (nbs P) n todo m seen=some r→ ∀k,n≤k→P.closureVia k todo seen=r
 |0,_,_,_,_,_,h,_,_=>by cases h
 |n+1,[],m,seen,r,_,h,k,_=>by
  have e:some seen.reverse=some r:=h
  cases k with
  |zero=>unfold Program.closureVia;exact Option.some.inj e
  |succ k=>unfold Program.closureVia;exact Option.some.inj e
 |n+1,f::todo,m,seen,r,hm,h,k,hk=>by
  obtain ⟨k,rfl⟩: ∃k',k=k'+1:=⟨k-1,by omega⟩
  have h':(Bool.rec (motive:=fun _=>Option (List Nat)) (fastC (nbs P) n (nbs P f++todo) (m ||| (1 <<< f)) (f::seen)) (fastC (nbs P) n todo m seen) (m.testBit f))=some r:=h
  rw[hm f] at h'
  unfold Program.closureVia
  by_cases hc:seen.contains f=true
  ·rw[if_pos hc]
   rw[hc] at h'
   exact fastC_sound P n todo m seen r hm h' k (by omega)
  ·have hc':seen.contains f=false:=by simpa using hc
   rw[if_neg hc]
   rw[hc'] at h'
   refine fastC_sound P n (nbs P f++todo) (m ||| (1 <<< f)) (f::seen) r (fun g=>?_) h' k (by omega)
   rw[Nat.testBit_or,hm g,Nat.one_shiftLeft,Nat.testBit_two_pow,List.contains_cons,Bool.or_comm]
   congr 1
   by_cases hfg:f=g
   ·subst hfg;simp
   ·have: ¬g=f:=fun e=>hfg e.symm
    simp[hfg,this]
abbrev Rec4:=List Nat × List Nat × Option String × Option String
def all4(P:Program)(g:Nat):Rec4:=(nbs P g,((P.funcs[g]?).bind (·.body)).elim [] Code.globalsNamed,(P.funcs[g]?).bind fun fn=>if fn.ours||fn.body.isNone||fn.name== "runtime.NumGoroutine" then some fn.name else none,(P.funcs[g]?).bind fun fn=>if fn.body.isNone then entryReads.lookup fn.name else none)
theorem nbs_all4(P:Program)(g:Nat):nbs P g=(all4 P g).1:=rfl
theorem gl_all4(P:Program)(g:Nat):(((P.funcs[g]?).bind (·.body)).elim [] Code.globalsNamed)=(all4 P g).2.1:=rfl
theorem pl_all4(P:Program)(g:Nat):((P.funcs[g]?).bind fun fn=>if fn.ours||fn.body.isNone||fn.name== "runtime.NumGoroutine" then some fn.name else none)=(all4 P g).2.2.1:=rfl
theorem en_all4(P:Program)(g:Nat):((P.funcs[g]?).bind fun fn=>if fn.body.isNone then entryReads.lookup fn.name else none)=(all4 P g).2.2.2:=rfl
def row0:List Rec4:=[([],[],some "main.main",none),([],[],some "gosem.cut",none),([1],[],none,none),([4,5,6,8,9,7,10,11],[],none,none),([8,7,10,12,13,14,10,15,14,5,14,10],[],none,none),([16,17],[],none,none),([19,18],[],none,none),([],[],none,none),([20],[],none,none),([21,22],[],none,none),([20],[],none,none),([21],[],none,none),([23,24,25,23,26,27],[],none,none),([28,30,31,29,32,35],[],none,none),([37],[],none,none),([38,14,8,39],[],none,none),([40],[],none,none),([41,41],[],none,none),([42,43],[],none,none),([44],[],none,none),([45],[],none,none),([44],[],none,none),([],[],none,none),([],[],none,none),([46,48,47],[],none,none),([49,50,51,52,53,54,55],[],none,none),([56,57,58],[],none,none),([59,61,62,60,63,64,65,48,47,25],[],none,none),([],[],none,none),([66,67,68,69,70,71,72],[],none,none),([],[],none,none),([],[],none,none)]
def row1:List Rec4:=[([34,33],[],none,none),([73],[],none,none),([74,75],[],none,none),([36],[],none,none),([72],[],none,none),([],[],none,none),([],[],none,none),([38,14,76,78,79,77,80,81,82],[],none,none),([],[],none,none),([],[],none,none),([43],[],none,none),([],[],none,none),([],[],none,none),([],[],none,none),([83,84,57,60,85,86,65,64],[],none,none),([87,48],[],none,none),([],[],none,none),([88,89],[],none,none),([90,91,92,93,94,95,96,97,98,99,100,101,101,94,102,103],[],none,none),([],[],none,none),([104,105],[],none,none),([106],[],none,none),([106],[],none,none),([106,107,94,108,109,110,109,109,108,108,110],[],none,none),([84,111],[],none,none),([112,84,113],[],none,none),([114],[],none,none),([55],[],none,none),([115,116,117,118,121,120,119,122,123,124,125],[],none,none),([126,127],[],none,none),([128,44,121],[],none,none),([129,130,131,132,133],[],none,none)]
def row2:List Rec4:=[([44,121,120,134],[],none,none),([135,136],[],none,none),([137,138,139,140,141],[],none,none),([142],[],none,none),([],[],none,none),([143,144,137,146,145],[],none,none),([147],[],none,none),([147],[],none,none),([147,148,149,151,150,150,152,150,149,149,152,153],[],none,none),([],[],none,none),([],[],none,none),([],[],none,none),([],[],none,none),([154],[],none,none),([36],[],none,none),([41],[],none,none),([155,37,157,156],[],none,none),([159,158,160,161,162,163,29],[],none,none),([],[],none,none),([105],[],none,none),([164],[],none,none),([129,165,90,166,131,167,105,168,168,168,168,169,170,171,172,174,173,175,176,177,178,179,180,181,181,183,182,184,185,168,186,187,188],[],none,none),([],[],none,none),([189],[],none,none),([],[],none,none),([],[],none,none),([],[],none,none),([190,104,191],[],none,none),([192],[],none,none),([193],[],none,none),([],[],none,none),([126,194,195],[],none,none)]
def row3:List Rec4:=[([196,196,197,197,198,197,197,199,197,197,197,197,197,197,200,197,197,197,197,197,197,197,199,199,199,199,201,202],[],none,none),([203,94,204,102],[],none,none),([197,205,197,197,197,197,206],[],none,none),([],[],none,none),([207],[],none,none),([190,96],[],none,none),([208,209,210,211,190],[],none,none),([212,213,214,197,197,197,215],[],none,none),([212,216,216],[],none,none),([90],[],none,none),([217,218,219,220],[],none,none),([],[],none,none),([94,109,109],[],none,none),([221],[],none,none),([109,219,203,108],[],none,none),([222,223,224,222,224,223,225,226,164],[],none,none),([],[],none,none),([227,228,229,113,230],[],none,none),([231,231],[],none,none),([128,121,232],[],none,none),([121,120,134],[],none,none),([],[],none,none),([233],[],none,none),([],[],none,none),([],[],none,none),([234],[],none,none),([121,120,235,120,128,121,121],[],none,none),([129,165,167],[],none,none),([233],[],none,none),([237,236],[],none,none),([],[],none,none),([],[],none,none)]
def row4:List Rec4:=[([238,234],[],none,none),([57,239,241,240,240],[],none,none),([],[],none,none),([242],[],none,none),([167,243,244,130,244,174,173,175,172,188],[],none,none),([130,130,243,174,173,176,177,183,182,183,182,172,245,245,245,178,188],[],none,none),([86],[],none,none),([],[],none,none),([246,237,236,247,248],[],none,none),([249,250],[],none,none),([251,143,251,252,253],[],none,none),([254,253,255,148,253],[],none,none),([256,251,257,253,258,258,253],[],none,none),([148,259,260,259,261,253],[],none,none),([],[],none,none),([262,263,263],[],none,none),([],[],none,none),([264],[],none,none),([],[],none,none),([255,253,265,261,253],[],none,none),([],[],none,none),([148,151,150,150],[],none,none),([266],[],none,none),([],[],none,none),([259,267,268,149],[],none,none),([249,250],[],none,none),([],[],none,none),([269,270,271],[],none,none),([272],[],none,none),([16],[],none,none),([273,155,274,275],[],none,none),([276,277,155],[],none,none)]
def row5:List Rec4:=[([278,269,279,280],[],none,none),([269,279,281,280,282,284,283,285,286,287],[],none,none),([],[],none,none),([289,288],[],none,none),([290,291],[],none,none),([],[],none,none),([130],[],none,none),([292,240,293],[],none,none),([],[],none,none),([294,168,295,296],[],none,none),([105,243,130,244,185,130,130],[],none,none),([297,298,299,300,300,300,300,107,301],[],none,none),([303,302,304,302,174,174,302,174,305,307,306,302,308],[],none,none),([300,215,204,310,309,311,311,311,311,311,312,309,312,309,313,309,313,309,314,309,315,309,316],[],none,none),([317],[],none,none),([318,318,319,240,320,321,322],[],none,none),([130,94,324,323],[],none,none),([325,326],[],none,none),([325,327,327,316],[],none,none),([204],[],none,none),([293,179,324,323,178,328,322],[],none,none),([171,329,330,331,327,204,204,316,204],[],none,none),([300,332,204,310,309,311,311,311,311,327,333,333,315,327,327,316],[],none,none),([318,318,293],[],none,none),([321],[],none,none),([],[],none,none),([334,335],[],none,none),([300,301,301,336,336,321,316],[],none,none),([],[],none,none),([],[],none,none),([99],[],none,none),([99,337],[],none,none)]
def row6:List Rec4:=[([197,338,197,339,197,197,197,197,197],[],none,none),([340],[],none,none),([126,127,244],[],none,none),([96],[],none,none),([341,197],[],none,none),([],[],none,none),([342,343,344],[],none,none),([],[],none,none),([345],[],none,none),([346],[],none,none),([345,345,345,345,347],[],none,none),([102,348,201,349,350,94],[],none,none),([],[],none,none),([351],[],none,none),([352,353,353,353,353],[],none,none),([196,338,197,197,197,197,334],[],none,none),([],[],none,none),([210,354,354],[],none,none),([355,355],[],none,none),([356,357,356,356],[],none,none),([196],[],none,none),([198],[],none,none),([205],[],none,none),([300,300,299,298],[],none,none),([197,197],[],none,none),([93],[],none,none),([220,219,220,220,220,220,358,203,359,97,220,109,108,360,220,361,220,362],[],none,none),([102,96],[],none,none),([],[],none,none),([208],[],none,none),([84,225,363],[],none,none),([364,365],[],none,none)]
def row7:List Rec4:=[([84,222,225,366],[],none,none),([],[],none,none),([363,226],[],none,none),([],[],none,none),([112,367,368,369,370,369],[],none,none),([112],[],none,none),([230],[],none,none),([],[],none,none),([],[],none,none),([237,371,236],[],none,none),([363],[],none,none),([],[],none,none),([],[],none,none),([],[],none,none),([84,372],[],none,none),([239],[],none,none),([94],[],none,none),([304,373],[],none,none),([94,130,374,320],[],none,none),([130,375],[],none,none),([126],[],none,none),([],[],none,none),([],[],none,none),([],[],none,none),([],[],none,none),([377,376],[],none,none),([],[],none,none),([],[],none,none),([378,379,380,381,382],[],none,none),([],[],none,none),([383],[],none,none),([384,386,385,387,388,389],[],none,none)]
def row8:List Rec4:=[([390,253,251,267,253,391,392,253],[],none,none),([393],[],none,none),([394,251,267],[],none,none),([395,396,261,253,394,253,251,253],[],none,none),([262,397,398,381,381,381,399],[],none,none),([395,400,394],[],none,none),([401],[],none,none),([381,381],[],none,none),([],[],none,none),([253,259,267,261,253,402,261,253,261,253,261,253,150,403,404,405,261,253,406,261,253,407],[],none,none),([],[],none,none),([401,401,408,410,397,411,412,413],[],none,none),([414,261,253,259,415,412,261,253,416,417,261,253],[],none,none),([418],[],none,none),([419,421,420],[],none,none),([422,271],[],none,none),([],[],none,none),([423],[],none,none),([424],[],none,none),([],[],none,none),([272],[],none,none),([],[],none,none),([],[],none,none),([425,426,427,428,428,428],[],none,none),([429,430],[],none,none),([431,431,432,433],[],none,none),([],[],none,none),([434,77],[],none,none),([431],[],none,none),([436,435,250],[],none,none),([432,282,437,145,438,439,440,441,443,442],[],none,none),([282,282,285,444,284,283,284,446,445,447,439,449,448,450,450,441,451,452,442],[],none,none)]
def row9:List Rec4:=[([454,289,30,455,456,456],[],none,none),([455],[],none,none),([290],[],none,none),([457,458,291],[],none,none),([],[],none,none),([],[],none,none),([],[],none,none),([],[],none,none),([193,459],[],none,none),([460],[],none,none),([352],[],none,none),([],[],none,none),([],[],none,none),([300],[],none,none),([174,320,321,308],[],none,none),([174,174,307,306],[],none,none),([225,461,327],[],none,none),([462],[],none,none),([463,464,465],[],none,none),([174,174],[],none,none),([174,322],[],none,none),([],[],none,none),([466],[],none,none),([327,309],[],none,none),([204],[],none,none),([467,352],[],none,none),([468],[],none,none),([469],[],none,none),([470,471,321],[],none,none),([],[],none,none),([],[],none,none),([206,352,327,327,327,327,327,327],[],none,none)]
def row10:List Rec4:=[([],[],none,none),([204],[],none,none),([202,345,468,472,199,466,469,473,474,473,474,473,474,473,474,474,474,474,474,473,474,474,475,474,474,473,473,468,473,474,474,474,316],[],none,none),([325,326,476],[],none,none),([476],[],none,none),([326],[],none,none),([],[],none,none),([],[],none,none),([],[],none,none),([204,311,311,311,311,311,311,311,313,309,313,309,312,309,312,309,310,309,315,309],[],none,none),([204,311,311,311,315,309,311,311,311,311,311,315,309],[],none,none),([204,311,312,309,313,309,311,315,309,314,309,311,311,315,309,336,309],[],none,none),([299,300,477,477,300,300],[],none,none),([327],[],none,none),([478,478,478],[],none,none),([334,478,469,327,327,327,327,316],[],none,none),([327,327],[],none,none),([300,479,341,197,197,197,214,213,197,197,171,338,197,197,197,197,197,197,94,171,197,197,201,214,197,216,171],[],none,none),([480,204],[],none,none),([],[],none,none),([481,481,481,481],[],none,none),([482,197,197,483,197,197],[],none,none),([],[],none,none),([484],[],none,none),([485,486],[],none,none),([],[],none,none),([197,197,197],[],none,none),([349,350,107,349,350],[],none,none),([196,197,197],[],none,none),([107,350,94],[],none,none),([107],[],none,none),([487,488],[],none,none)]
def row11:List Rec4:=[([461,204],[],none,none),([],[],none,none),([],[],none,none),([357],[],none,none),([],[],none,none),([349,350,94,94,94],[],none,none),([220,203,220,109,108,97,220],[],none,none),([208],[],none,none),([351,367,489],[],none,none),([490,462,220,220,367,220,491,218,219,220],[],none,none),([102,220,96,220,220,97,220,109,108,490,220,492,220,491,367,220,493],[],none,none),([],[],none,none),([],[],none,none),([222,225,494,164],[],none,none),([363,366,495],[],none,none),([297],[],none,none),([],[],none,none),([496,497,498,499,497,498],[],none,none),([],[],none,none),([],[],none,none),([458,372],[],none,none),([463,461,500],[],none,none),([244],[],none,none),([94],[],none,none),([501,502,503,504,505,506,507,508,509,376,376],[],none,none),([510,511],[],none,none),([],[],none,none),([424],[],none,none),([512,513],[],none,none),([409],[],none,none),([514,516,519],[],none,none),([521,517,522],[],none,none)]
def row12:List Rec4:=[([385,523],[],none,none),([525],[],none,none),([],[],none,none),([],[],none,none),([],[],none,none),([],[],none,none),([74,75,526,267],[],none,none),([268,148,424,259,527,528],[],none,none),([529,398,530],[],none,none),([401,531,517,532],[],none,none),([533,534,535,536],[],none,none),([],[],none,none),([400,537],[],none,none),([540,541],[],none,none),([542,543],[],none,none),([378,378,544,545],[],none,none),([538,538],[],none,none),([512,513],[],none,none),([],[],none,none),([404,546,547,261,253,548,549,550,551,261,253,553,554,261,253,265,261,253],[],none,none),([391,149],[],none,none),([543,555,556,557],[],none,none),([558,261],[],none,none),([559,404,546,261,253,560,261,253,562,561,563,564,261,253,40,559,558],[],none,none),([409],[],none,none),([566,565],[],none,none),([],[],none,none),([567,567],[],none,none),([568,569],[],none,none),([567,567,567,567,567,567,567,567,567,567,567,571],[],none,none),([],[],none,none),([401,570,570],[],none,none)]
def row13:List Rec4:=[([572,417,573],[],none,none),([572],[],none,none),([574,576,575],[],none,none),([585],[],none,none),([],[],none,none),([],[],none,none),([],[],none,none),([586,155],[],none,none),([587,588,588,588,588,588,589,527,590,590,590,528,527,528],[],none,none),([591,592],[],none,none),([426],[],none,none),([593,594,594],[],none,none),([595],[],none,none),([595],[],none,none),([596],[],none,none),([],[],none,none),([74],[],none,none),([597],[],none,none),([],[],none,none),([598,249],[],none,none),([599],[],none,none),([432],[],none,none),([],[],none,none),([378,399,602,601,600],[],none,none),([609,610,611,612,613],[],none,none),([614,615,611,612,616,613],[],none,none),([],[],none,none),([617],[],none,none),([618],[],none,none),([619,620],[],none,none),([621],[],none,none),([622],[],none,none)]
def row14:List Rec4:=[([609,609],[],none,none),([623],[],none,none),([378,624,625,604,608,604,604,604,424,626,601,600],[],none,none),([619,627,627,600],[],none,none),([453],[],none,none),([],[],none,none),([563,628],[],none,none),([629],[],none,none),([],[],none,none),([367,489,630,631,367],[],none,none),([],[],none,none),([327,339,469,327,327,327,327,327,327,327,321],[],none,none),([632,633],[],none,none),([297,634],[],none,none),([463,635],[],none,none),([464,464,461],[],none,none),([],[],none,none),([373,464,461,636,636,636,636,636,327,327,327,327,204,327,204,321,637],[],none,none),([638],[],none,none),([297,634,488],[],none,none),([107,639,327,204],[],none,none),([480,204,204],[],none,none),([],[],none,none),([327,327,483,327,327,327,640],[],none,none),([641,641,641],[],none,none),([204],[],none,none),([327],[],none,none),([107,94],[],none,none),([],[],none,none),([300],[],none,none),([],[],none,none),([],[],none,none)]
def row15:List Rec4:=[([],[],none,none),([],[],none,none),([642],[],none,none),([643],[],none,none),([644],[],none,none),([645,645,484],[],none,none),([],[],none,none),([],[],none,none),([],[],none,none),([225,367],[],none,none),([646],[],none,none),([],[],none,none),([462],[],none,none),([102,220,96,220,358],[],none,none),([495,363,494,495],[],none,none),([],[],none,none),([297,647,647,647,647],[],none,none),([],[],none,none),([648],[],none,none),([499,499,499],[],none,none),([],[],none,none),([507],[],none,none),([649,649],[],none,none),([650,651],[],none,none),([652,652,652,653],[],none,none),([],[],none,none),([507,507,507],[],none,none),([654,654],[],none,none),([507,507],[],none,none),([507,507,507,507],[],none,none),([],[],none,none),([],[],none,none)]
def row16:List Rec4:=[([655,513,656,657,656,658],[],none,none),([656,656,656,656],[],none,none),([398,397,381,381,515],[],none,none),([659,544],[],none,none),([517,381,381,381,381,381,381,518],[],none,none),([660,661,662],[],none,none),([378,378,378,378],[],none,none),([381,398,412,381,381,263,520],[],none,none),([663,545,664],[],none,none),([409],[],none,none),([],[],none,none),([524],[],none,none),([625,145,665],[],none,none),([],[],none,none),([667],[],none,none),([668],[],none,none),([],[],none,none),([409],[],none,none),([669,670,670,670,145,671],[],none,none),([409],[],none,none),([672,672,672],[],none,none),([],[],none,none),([533],[],none,none),([533],[],none,none),([673,533],[],none,none),([538,539],[],none,none),([673],[],none,none),([],[],none,none),([],[],none,none),([674,675],[],none,none),([],[],none,none),([676,677,528],[],none,none)]
def row17:List Rec4:=[([],[],none,none),([669],[],none,none),([678],[],none,none),([679],[],none,none),([680],[],none,none),([],[],none,none),([377,681],[],none,none),([552],[],none,none),([682],[],none,none),([680],[],none,none),([555],[],none,none),([683,684],[],none,none),([589,527,527,527,528],[],none,none),([685,419,555],[],none,none),([268,149,391],[],none,none),([259,267,261,253,261,253,150],[],none,none),([547],[],none,none),([686,687],[],none,none),([688],[],none,none),([689],[],none,none),([555],[],none,none),([690],[],none,none),([691],[],none,none),([],[],none,none),([570,570],[],none,none),([570],[],none,none),([409],[],none,none),([663,416,417,416,417],[],none,none),([692,693],[],none,none),([],[],none,none),([694,575],[],none,none),([695,575],[],none,none)]
def row18:List Rec4:=[([577,578,579,580,581,582,583,584],[],none,none),([],[],none,none),([555],[],none,none),([],[],none,none),([557],[],none,none),([696],[],none,none),([],[],none,none),([555,697],[],none,none),([697],[],none,none),([698,699,700],[],none,none),([269,701,575],[],none,none),([702,703],[],none,none),([704],[],none,none),([668,705],[],none,none),([],[],none,none),([706,269,707],[],none,none),([],[],none,none),([588,419,708],[],none,none),([679,709],[],none,none),([431],[],none,none),([],[],none,none),([572,710],[],none,none),([711],[],none,none),([],[],none,none),([712,424],[],none,none),([713],[],none,none),([603,604,604,604,604,604,605,606,605,606,607,608],[],none,none),([714],[],none,none),([627],[],none,none),([424],[],none,none),([715,669],[],none,none),([663],[],none,none)]
def row19:List Rec4:=[([716],[],none,none),([],[],none,none),([530,717,669,527,528],[],none,none),([433],[],none,none),([431,424],[],none,none),([413,567,663,410,718,719,720,714,721,527,527,527,424,663,527,716,527,527,528,600],[],none,none),([],[],none,none),([614,722,723,593,614,614,723],[],none,none),([],[],none,none),([],[],none,none),([],[],none,none),([621],[],none,none),([],[],none,none),([],[],none,none),([],[],none,none),([724],[],none,none),([625,544,145,726],[],none,none),([727],[],none,none),([603,604,604,604,604],[],none,none),([728,566,729],[],none,none),([],[],none,none),([],[],none,none),([],[],none,none),([],[],none,none),([],[],none,none),([],[],none,none),([327,730],[],none,none),([],[],none,none),([],[],none,none),([470,471],[],none,none),([486,342,731],[],none,none),([327,327],[],none,none)]
def row20:List Rec4:=[([482],[],none,none),([],[],none,none),([],[],none,none),([],[],none,none),([],[],none,none),([644],[],none,none),([196,197,500,351,197,197,197,463],[],none,none),([732],[],none,none),([632,633],[],none,none),([507,507],[],none,none),([377],[],none,none),([],[],none,none),([653],[],none,none),([733,733,733],[],none,none),([],[],none,none),([],[],none,none),([409],[],none,none),([734],[],none,none),([735],[],none,none),([684],[],none,none),([736],[],none,none),([737,738],[],none,none),([740,739,741,743,742,745,744],[],none,none),([572,746,747],[],none,none),([378],[],none,none),([666],[],none,none),([],[],none,none),([432],[],none,none),([749],[],none,none),([542,708,424],[],none,none),([],[],none,none),([670],[],none,none)]
def row21:List Rec4:=[([],[],none,none),([416,573],[],none,none),([750,751],[],none,none),([674,540,752,753],[],none,none),([],[],none,none),([668,754],[],none,none),([755],[],none,none),([758,758,708],[],none,none),([],[],none,none),([759,760,761,762,763,764,765,766,681,681],[],none,none),([767],[],none,none),([700],[],none,none),([768,769],[],none,none),([770],[],none,none),([771],[],none,none),([377,772],[],none,none),([],[],none,none),([],[],none,none),([],[],none,none),([],[],none,none),([773],[],none,none),([],[],none,none),([],[],none,none),([],[],none,none),([],[],none,none),([552],[],none,none),([774,768],[],none,none),([774,775,700],[],none,none),([776],[],none,none),([],[],none,none),([],[],none,none),([],[],none,none)]
def row22:List Rec4:=[([],[],none,none),([777],[],none,none),([],[],none,none),([422,778,779,780,780,707,781,782],[],none,none),([684,783,784,784],[],none,none),([],[],none,none),([],[],none,none),([],[],none,none),([785,785,785,786,786,786,658,786,786,786,787],[],none,none),([],[],none,none),([788],[],none,none),([684,542,789,708],[],none,none),([661,790],[],none,none),([627,527],[],none,none),([627,527],[],none,none),([424,527],[],none,none),([567],[],none,none),([572,573],[],none,none),([547],[],none,none),([679,590,756,791,527,528],[],none,none),([619,725,725],[],none,none),([],[],none,none),([378],[],none,none),([],[],none,none),([792],[],none,none),([],[],none,none),([],[],none,none),([645,645,484,484],[],none,none),([793,794],[],none,none),([507],[],none,none),([],[],none,none),([795],[],none,none)]
def row23:List Rec4:=[([776],[],none,none),([796],[],none,none),([],[],none,none),([],[],none,none),([],[],none,none),([],[],none,none),([797],[],none,none),([797],[],none,none),([768,798],[],none,none),([799,798],[],none,none),([748,748],[],none,none),([748,748],[],none,none),([627],[],none,none),([],[],some "internal/abi.NoEscape",none),([],[],none,none),([800],[],none,none),([751,801,801],[],none,none),([],[],none,none),([802],[],none,none),([756,757],[],none,none),([],[],none,none),([401,803,709,543,804,679,709],[],none,none),([],[],none,none),([],[],none,none),([805,805],[],none,none),([650,651],[],none,none),([806,806,806,807],[],none,none),([],[],none,none),([],[],none,none),([],[],none,none),([],[],none,none),([],[],some "internal/bytealg.abigen_runtime_cmpstring",none)]
def row24:List Rec4:=[([808],[],none,none),([],[],none,none),([704],[],none,none),([],[],none,none),([809,810,811,812,813,814,815,816,817,772,772],[],none,none),([],[],none,none),([],[],none,none),([],[],some "internal/bytealg.CountString",none),([818,819,818,820,819,821],[0,0,0],none,none),([],[],some "internal/bytealg.MakeNoZero",none),([706,555,823,822,824,825,825],[],none,none),([706],[],none,none),([],[],none,none),([377,826],[],none,none),([552],[],none,none),([],[],none,none),([],[],none,none),([827],[],none,none),([627],[],none,none),([657],[],none,none),([753,540,801,801,751,751],[],none,none),([769,677,528],[],none,none),([424],[],none,none),([679,758,828,804,663,709,424,829],[],none,none),([],[],none,none),([],[],none,none),([],[],none,none),([830,831],[],none,none),([],[],none,none),([],[],none,none),([832],[],none,none),([833,768],[],none,none)]
def row25:List Rec4:=[([],[],none,none),([800],[],none,none),([],[],none,none),([409],[],none,none),([],[],none,none),([],[],none,none),([807],[],none,none),([834,834,834],[],none,none),([],[1,2],none,none),([815],[],none,none),([835,835],[],none,none),([650,651],[],none,none),([836,836,836,837],[],none,none),([],[],none,none),([815,815,815],[],none,none),([838,838],[],none,none),([815,815],[],none,none),([815,815,815,815],[],none,none),([839],[],none,none),([],[],some "internal/bytealg.IndexString",some "internal/bytealg.MaxLen"),([],[],none,none),([840],[],none,none),([377,841],[],none,none),([552],[],none,none),([842,843,844,845,845],[],none,none),([846],[],none,none),([847,848,849,850,851,852,853,854,826,826],[],none,none),([],[],none,none),([627],[],none,none),([827,712],[],none,none),([],[],none,none),([],[],none,none)]
def row26:List Rec4:=[([855,856,855,820,819],[],none,none),([],[],none,none),([],[],none,none),([815,815],[],none,none),([837],[],none,none),([857,857,857],[],none,none),([],[],none,none),([],[],some "internal/bytealg.IndexByteString",none),([],[],none,none),([858,859,860,861,862,863,864,865,841,841],[],none,none),([798],[],none,none),([866],[],none,none),([867,868],[],none,none),([],[],none,none),([869],[],none,none),([],[],none,none),([870,870],[],none,none),([650,651],[],none,none),([871,871,871,872],[],none,none),([],[],none,none),([],[],none,none),([],[],none,none),([],[],none,none),([818],[],none,none),([],[],none,none),([815],[],none,none),([],[],none,none),([873,873],[],none,none),([650,651],[],none,none),([874,874,874,875],[],none,none),([],[],none,none),([],[],none,none)]
def row27:List Rec4:=[([],[],none,none),([],[],none,none),([877,876],[],none,none),([878],[],none,none),([879],[],none,none),([880],[],none,none),([],[],none,none),([872],[],none,none),([881,881,881],[],none,none),([],[],none,none),([875],[],none,none),([882,882,882],[],none,none),([],[],none,none),([],[],none,none),([],[],none,none),([883],[],none,none),([884,885,886,887],[],none,none),([],[],none,none),([],[],none,none),([],[],none,none),([],[],none,none),([511,888,889],[3],none,none),([],[],none,none),([890,891],[],none,none),([],[],none,none),([],[],none,none),([],[],none,none),([892,893],[],none,none),([],[4],none,none),([],[5],none,none),([],[],some "(runtime.boundsError).Error",none),([],[],some "(runtime.boundsError).RuntimeError",none)]
def row28:List Rec4:=[([],[],some "(runtime.errorString).Error",none),([],[],some "(runtime.errorString).RuntimeError",none),([],[],some "(runtime.plainError).Error",none),([],[],some "(runtime.plainError).RuntimeError",none),([],[],some "(runtime.errorAddressString).Error",none),([],[],some "(runtime.errorAddressString).RuntimeError",none),([],[],some "(*runtime.TypeAssertionError).Error",none),([],[],some "(*runtime.TypeAssertionError).RuntimeError",none),([],[],some "(*runtime.PanicNilError).Error",none),([],[],some "(*runtime.PanicNilError).RuntimeError",none),([],[],some "(*internal/abi.Type).Align",none),([],[],some "(internal/runtime/maps.unhashableTypeError).Error",none),([],[],some "(internal/runtime/maps.unhashableTypeError).RuntimeError",none),([912,912,913],[],none,none),([912],[],none,none),([914],[],none,none),([],[],none,none),([],[],none,none),([],[],none,none),([],[],some "(*masterdisc/packetwriter.Writer).Base",none),([920,917],[],none,none),([921,145],[],none,none),([920,922,912,917],[],none,none),([923,924],[],none,none),([925],[],none,none),([],[],none,none),([],[],none,none),([926],[],none,none),([922,927,424,928],[],none,none),([929],[],none,none),([931,930],[],none,none),([],[],none,none)]
def row29:List Rec4:=[([587],[],none,none),([],[],none,none),([],[],none,none),([],[],none,none),([],[],some "(*strings.Builder).Reset",none),([],[],some "(internal/abi.Kind).String",none),([],[],some "var's door: gosem.cut.vars holds initialisers alone; see the manifest's row cutvarsword (look 11, test files too)",none),([],[],some "var's door: internal/strconv.uint64pow10 is laid by its own initialiser, plain data (look 11)",none),([],[],some "var's door: math/bits.deBruijn32tab is laid by its own initialiser, plain data (look 11)",none),([],[],some "var's door: math/bits.deBruijn64tab is laid by its own initialiser, plain data (look 11)",none),([],[],some "var's door: the look of gosem.cut.vars went over the folder that the caller named as the repository's root (look 11)",none),([],[],some "var's door: unicode/utf8.acceptRanges is laid by its own initialiser, plain data (look 11)",none),([],[],some "var's door: unicode/utf8.first is laid by its text alone (pinned 1)",none),([],[4,5,3,2],none,none),([],[],none,none),([],[],none,none),([],[],none,none),([],[],none,none),([],[],none,none),([],[],none,none),([],[],none,none),([],[],none,none),([],[],none,none),([],[],none,none),([],[],none,none),([],[],none,none),([],[],none,none),([],[],none,none),([],[],none,none),([],[],none,none),([],[],none,none),([],[],none,none)]
def rows4:List (List Rec4):=[row0,row1,row2,row3,row4,row5,row6,row7,row8,row9,row10,row11,row12,row13,row14,row15,row16,row17,row18,row19,row20,row21,row22,row23,row24,row25,row26,row27,row28,row29]
def tab4(g:Nat):Rec4:=((rows4[g / 32]?).getD [])[g % 32]?.getD ([],[],none,none)
theorem size4:Tryz.prog.funcs.size=942:=by kernel_rfl
theorem fact0:(List.range' 0 32).map (all4 Tryz.prog)=row0:=by kernel_rfl
theorem fact1:(List.range' 32 32).map (all4 Tryz.prog)=row1:=by kernel_rfl
theorem fact2:(List.range' 64 32).map (all4 Tryz.prog)=row2:=by kernel_rfl
theorem fact3:(List.range' 96 32).map (all4 Tryz.prog)=row3:=by kernel_rfl
theorem fact4:(List.range' 128 32).map (all4 Tryz.prog)=row4:=by kernel_rfl
theorem fact5:(List.range' 160 32).map (all4 Tryz.prog)=row5:=by kernel_rfl
theorem fact6:(List.range' 192 32).map (all4 Tryz.prog)=row6:=by kernel_rfl
theorem fact7:(List.range' 224 32).map (all4 Tryz.prog)=row7:=by kernel_rfl
theorem fact8:(List.range' 256 32).map (all4 Tryz.prog)=row8:=by kernel_rfl
theorem fact9:(List.range' 288 32).map (all4 Tryz.prog)=row9:=by kernel_rfl
theorem fact10:(List.range' 320 32).map (all4 Tryz.prog)=row10:=by kernel_rfl
theorem fact11:(List.range' 352 32).map (all4 Tryz.prog)=row11:=by kernel_rfl
theorem fact12:(List.range' 384 32).map (all4 Tryz.prog)=row12:=by kernel_rfl
theorem fact13:(List.range' 416 32).map (all4 Tryz.prog)=row13:=by kernel_rfl
theorem fact14:(List.range' 448 32).map (all4 Tryz.prog)=row14:=by kernel_rfl
theorem fact15:(List.range' 480 32).map (all4 Tryz.prog)=row15:=by kernel_rfl
theorem fact16:(List.range' 512 32).map (all4 Tryz.prog)=row16:=by kernel_rfl
theorem fact17:(List.range' 544 32).map (all4 Tryz.prog)=row17:=by kernel_rfl
theorem fact18:(List.range' 576 32).map (all4 Tryz.prog)=row18:=by kernel_rfl
theorem fact19:(List.range' 608 32).map (all4 Tryz.prog)=row19:=by kernel_rfl
theorem fact20:(List.range' 640 32).map (all4 Tryz.prog)=row20:=by kernel_rfl
theorem fact21:(List.range' 672 32).map (all4 Tryz.prog)=row21:=by kernel_rfl
theorem fact22:(List.range' 704 32).map (all4 Tryz.prog)=row22:=by kernel_rfl
theorem fact23:(List.range' 736 32).map (all4 Tryz.prog)=row23:=by kernel_rfl
theorem fact24:(List.range' 768 32).map (all4 Tryz.prog)=row24:=by kernel_rfl
theorem fact25:(List.range' 800 32).map (all4 Tryz.prog)=row25:=by kernel_rfl
theorem fact26:(List.range' 832 32).map (all4 Tryz.prog)=row26:=by kernel_rfl
theorem fact27:(List.range' 864 32).map (all4 Tryz.prog)=row27:=by kernel_rfl
theorem fact28:(List.range' 896 32).map (all4 Tryz.prog)=row28:=by kernel_rfl
theorem fact29:(List.range' 928 32).map (all4 Tryz.prog)=row29:=by kernel_rfl
theorem facts4(i:Nat)(h:i<30):(List.range' (32*i) 32).map (all4 Tryz.prog)=(rows4[i]?).getD []:=by
 match i,h with
 |0,_=>exact fact0
 |1,_=>exact fact1
 |2,_=>exact fact2
 |3,_=>exact fact3
 |4,_=>exact fact4
 |5,_=>exact fact5
 |6,_=>exact fact6
 |7,_=>exact fact7
 |8,_=>exact fact8
 |9,_=>exact fact9
 |10,_=>exact fact10
 |11,_=>exact fact11
 |12,_=>exact fact12
 |13,_=>exact fact13
 |14,_=>exact fact14
 |15,_=>exact fact15
 |16,_=>exact fact16
 |17,_=>exact fact17
 |18,_=>exact fact18
 |19,_=>exact fact19
 |20,_=>exact fact20
 |21,_=>exact fact21
 |22,_=>exact fact22
 |23,_=>exact fact23
 |24,_=>exact fact24
 |25,_=>exact fact25
 |26,_=>exact fact26
 |27,_=>exact fact27
 |28,_=>exact fact28
 |29,_=>exact fact29
 |i+30,h=>exact absurd h (by omega)
theorem tab4_eq(g:Nat):all4 Tryz.prog g=tab4 g:=by
 rcases Nat.lt_or_ge g 960 with h|h
 ·have h1:=facts4 (g / 32) (by omega)
  have h2:((List.range' (32*(g / 32)) 32).map (all4 Tryz.prog))[g % 32]? =some (all4 Tryz.prog g):=by
   rw[List.getElem?_map,List.getElem?_range' (by omega)]
   show some (all4 Tryz.prog (32*(g / 32)+1*(g % 32)))=_
   congr 2
   omega
  rw[h1] at h2
  unfold tab4
  rw[h2]
  rfl
 ·have hn:Tryz.prog.funcs[g]? =none:=Array.getElem?_eq_none (by rw[size4];omega)
  have hr:rows4[g / 32]? =none:=List.getElem?_eq_none (by show 30≤g / 32;omega)
  unfold all4 nbs tab4
  rw[hn,hr]
  rfl
theorem nbs_tab:nbs Tryz.prog=fun g=>(tab4 g).1:=by
 funext g
 rw[←tab4_eq g]
 exact nbs_all4 _ g
theorem gl_tab:(fun g:Nat=>((Tryz.prog.funcs[g]?).bind (·.body)).elim [] Code.globalsNamed)=fun g=>(tab4 g).2.1:=by
 funext g
 rw[←tab4_eq g]
 exact gl_all4 _ g
theorem pl_tab:(fun g:Nat=>(Tryz.prog.funcs[g]?).bind fun fn=>if fn.ours||fn.body.isNone||fn.name== "runtime.NumGoroutine" then some fn.name else none)=fun g=>(tab4 g).2.2.1:=by
 funext g
 rw[←tab4_eq g]
 exact pl_all4 _ g
theorem en_tab:(fun g:Nat=>(Tryz.prog.funcs[g]?).bind fun fn=>if fn.body.isNone then entryReads.lookup fn.name else none)=fun g=>(tab4 g).2.2.2:=by
 funext g
 rw[←tab4_eq g]
 exact en_all4 _ g
end Go.Proofs.YtihcgekdnljahaaGreatDoor
end
section
namespace Go.Proofs.YtihcgekdnljahaaGreatDoor
open Go
def closL:List Nat:=[3,4,8,20,45,7,10,12,23,24,46,83,105,90,84,164,290,291,457,367,297,460,632,633,489,225,630,631,458,57,112,113,227,228,368,369,496,647,732,793,794,497,498,648,499,370,229,230,60,115,128,238,372,234,363,121,232,116,120,134,86,117,118,233,237,371,236,119,122,235,123,129,239,241,304,461,634,327,730,373,463,464,500,240,94,165,167,292,293,124,125,85,166,130,131,242,374,244,126,320,168,169,294,295,296,193,340,481,459,339,469,480,204,321,170,243,375,185,171,298,352,299,300,107,301,172,303,174,317,307,306,465,636,637,470,471,483,643,640,482,642,302,308,322,202,345,347,349,350,468,639,472,641,199,466,638,486,342,731,645,644,484,473,474,475,316,305,462,635,173,215,310,309,311,312,313,467,488,314,315,175,318,319,206,353,176,324,476,323,325,326,177,178,179,180,328,181,329,330,331,336,183,182,332,477,333,184,186,334,478,335,187,188,65,135,136,246,247,248,64,44,48,47,87,189,25,49,88,89,50,91,190,99,104,212,196,341,197,216,191,337,479,214,205,351,487,213,198,343,344,485,338,201,346,92,192,93,95,194,127,195,96,200,97,203,102,208,209,210,355,357,354,211,356,348,98,100,207,101,103,51,52,53,106,217,218,220,219,358,109,221,108,359,360,361,490,646,491,362,492,493,54,55,110,26,56,111,222,223,364,365,494,495,224,366,226,58,114,231,27,59,61,62,63,132,133,245,13,28,30,31,29,66,137,249,377,510,511,376,501,507,654,502,649,503,650,651,504,652,653,733,505,506,508,509,250,138,251,143,262,401,512,655,513,656,409,566,691,565,690,657,734,658,735,795,830,831,263,381,252,378,379,424,587,702,703,588,704,589,668,749,705,777,527,590,528,380,382,514,398,542,543,676,677,754,802,397,540,541,674,750,751,800,675,752,801,753,515,659,684,768,808,769,544,516,517,660,736,776,818,839,819,820,821,840,661,737,796,738,662,740,739,741,743,797,742,745,799,833,798,832,855,856,744,518,519,412,568,570,569,520,663,572,692,773,693,746,748,627,728,792,729,747,545,669,708,783,784,664,253,139,254,383,521,522,255,384,385,525,523,524,625,727,145,264,665,666,386,387,388,389,148,140,256,390,74,75,526,667,432,267,408,410,411,567,413,571,416,417,573,391,268,414,261,395,400,538,673,394,533,534,535,536,259,396,537,539,415,392,529,530,670,671,257,393,531,532,672,258,141,260,399,67,142,68,69,144,146,70,147,265,402,150,266,403,404,149,151,546,678,755,756,757,803,709,804,679,758,547,548,680,549,550,681,759,760,805,761,762,806,807,834,763,764,765,766,551,552,682,767,553,554,555,683,700,405,556,557,685,770,419,585,698,774,699,775,406,558,407,559,560,562,688,561,686,771,687,772,809,815,838,810,835,811,812,836,837,857,813,814,816,817,563,689,564,40,71,72,152,153,32,34,33,73,35,36,14,37,15,38,39,76,78,79,41,77,154,80,155,269,418,574,694,575,695,576,577,578,579,580,581,696,582,583,697,584,270,421,420,271,422,157,16,156,272,81,159,276,277,158,273,423,586,701,274,275,160,278,279,425,591,706,707,778,823,822,841,858,859,873,860,861,874,875,882,862,863,864,865,824,842,843,866,877,876,844,867,878,868,879,883,845,825,846,869,880,884,885,888,889,886,887,890,891,892,893,779,780,781,826,847,848,870,849,850,871,872,881,851,852,853,854,782,592,426,427,593,594,428,595,431,280,429,430,596,161,281,433,597,710,282,284,283,434,285,436,599,435,598,711,286,437,438,439,602,603,714,788,604,605,606,715,789,607,608,716,790,601,713,600,712,785,827,786,787,440,609,610,717,611,612,613,718,719,720,721,441,614,615,722,723,791,828,829,616,443,617,442,287,444,618,446,621,445,619,620,447,622,449,623,724,725,448,450,624,726,626,451,452,453,162,163,289,455,629,288,454,628,456,82,5,17,6,19,18,42,43,9,21,22,11]
noncomputable def someAt(n:Nat):Option (List Nat):=fastC (fun g=>(tab4 g).1) n [3] 0 []
noncomputable def fuelAt(n:Nat):Bool:=Nat.ble n (1+(Tryz.prog.funcs.toList.map fun g=>(Tryz.prog.leadsTo g).length+1).sum)
set_option maxRecDepth 1000000 in
theorem clos_some:someAt 2092=some closL:=by kernel_rfl
set_option maxRecDepth 1000000 in
theorem clos_fuel:fuelAt 2092=true:=by kernel_rfl
theorem clos_of(n:Nat)(h1:someAt n=some closL)(h2:fuelAt n=true):Tryz.prog.closure 3=closL:=by
 unfold someAt at h1
 rw[←nbs_tab] at h1
 unfold Program.closure
 exact fastC_sound Tryz.prog n [3] 0 [] closL (fun g=>by simp) h1 _ (Nat.le_of_ble_eq_true h2)
theorem clos:Tryz.prog.closure 3=closL:=clos_of 2092 clos_some clos_fuel
end Go.Proofs.YtihcgekdnljahaaGreatDoor
end
