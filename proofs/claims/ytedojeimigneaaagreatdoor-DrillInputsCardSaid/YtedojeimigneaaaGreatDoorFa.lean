import Derived.Test.YtedojeimigneaaaGreatDoorProg
import Derived.Test.YtedojeimigneaaaGreatDoorRows
import Derived.JoinedOf
import Derived.SevenTiedAt
import Derived.Test.YtedojeimigneaaaGreatDoorCards
import Derived.Test.YtedojeimigneaaaGreatDoorSlW
namespace Go.SL
variable{P:Program}
def Y5(T:List (List ey))(f:Nat):ey:=((T[f / 38]?.getD [])[f % 38]?).getD []
def clM(T:List (List ey)):Nat->ey->ey->Nat->ey
 |0,_,seen,_=>seen.reverse
 |_,[],seen,_=>seen.reverse
 |n+1,f::todo,seen,m=>bif m.testBit f then clM T n todo seen m else clM T n (Y5 T f++todo) (f::seen) (m ||| 1 <<< f)
theorem Ad3{P:Program}{T:List (List ey)}(hT:∀f:Nat,(P.funcs[f]?).elim [] P.leadsTo=Y5 T f):∀(n:Nat)(todo seen:ey)(m:Nat),(∀f,m.testBit f=seen.contains f)->P.closureVia n todo seen=clM T n todo seen m
 |0,_,_,_,_=>by simp only[Program.closureVia,clM]
 |n+1,[],_,_,_=>by simp only[Program.closureVia,clM]
 | n+1,f::todo,seen,m,h=>by
  simp only[Program.closureVia,clM,h f];cases e:seen.contains f with
  |true=>simp only[if_true,eh];exact Ad3 hT n todo seen m h
  |false=>
   simp only[Bool.false_eq_true,if_false,eg,hT];refine Ad3 hT n _ _ _ λg=>?_;rw[Nat.testBit_or,h g,Nat.one_shiftLeft,Nat.testBit_two_pow,List.contains_cons,Bool.or_comm];by_cases e2:f=g
   .subst e2;simp
   .rw[decide_eq_false e2,dR.2 (ba e2)]
theorem A1t:∀{T:List (List ey)}{l:List Func},(∀(i:Nat) r,T[i]?=some r->((l.drop (38*i)).take 38).map P.leadsTo=r)->l.length<=38*T.length->∀f:Nat,(l[f]?).elim [] P.leadsTo=Y5 T f:=by
 intro T l h hl f;have hf:f=38*(f / 38)+f % 38:=by omega
 have hm:f % 38<38:=Nat.mod_lt _ (by decide);unfold Y5;cases e:T[f / 38]? with
 |none=>have:=List.getElem?_eq_none_iff.1 e;rw[cD (by omega)];rfl
 |some r=>have h1:=h _ _ e;simp only[cG];rw[←h1,au,ap,ei hm,ar,←hf];cases l[f]? <;> rfl
theorem Anc{P:Program}:∀{T:List (List ey)}{l:List Func},(∀(i:Nat) r,T[i]?=some r->((l.drop (38*i)).take 38).map P.leadsTo=r)->l.length<=38*T.length->(l.map λg=>(P.leadsTo g).length+1)=T.flatten.map λr=>r.length+1
 | [],l,_,hl=>by have:l=[]:=bm (by simpa using hl);subst this;rfl
 | r::T,l,h,hl=>by
  have h0:=h 0 r rfl;rw[Nat.mul_zero,List.drop_zero]at h0;have ih:=Anc (T:=T) (l:=l.drop 38) (λi r hi=>by have:=h (i+1) r hi;rw[cq,show 38+38*i=38*(i+1) from by omega];exact this) (by simp only[bJ,aT]at *;omega)
  rw[cm,bh,←ih,←h0,cC]
  conv=>lhs;rw[←bl 38 l,bh]
  rfl
theorem Aoh(h:P.funcs.toList.any Func.goes=false)(f:FuncId):P.goes f=false:=by
 have hg:∀g:Nat,(P.funcs[g]?).any Func.goes=false:=λg=>by
  cases e:P.funcs[g]? with
  |none=>rfl
  |some fn=>have hm:fn∈P.funcs.toList:=Array.mem_toList_iff.2 (Array.mem_of_getElem? e);rw[bN]at h;simpa using h fn hm
 have h2:P.funcs.any Func.goes=false:=by rw[←Array.any_toList];exact h
 unfold Program.goes;rw[h2,Bool.and_false,Bool.or_false,bN];intro g _;simp[hg g]
theorem Atm{o:Option FuncId}{q:FuncId->Bool}(h:∀f,q f=false):o.any q=false:=by
 cases o with
 |none=>rfl
 |some f=>exact h f
theorem A13{c:OpenClaim}(hs:c.start=.entering)(h:P.funcs.toList.any Func.goes=false):false=c.goesBy P:=by unfold OpenClaim.goesBy Program.goesAt Program.goesFrom;rw[hs,Atm (Aoh h)];rfl
end Go.SL
namespace Go.Proofs.YtedojeimigneaaaGreatDoor
open Go Go.SL
def lt0:List ey:=[[],[],[1],[4,5,6,7,8,9,4],[11,10,12,13,13,13],[],[14,15,16,15,15,17,15,15,15,18,15,19],[20,21,22],[23],[24],[23,7,8,25],[5,14],[],[27,26],[16,15,18,15,18,18,28,29],[30],[31,32,33,34,35,36,18,37,38,39,39,40,39,41,28,29],[40,18,40,18],[15],[42,43,44,45,46,47],[48,49,50,51,51,51,52],[53,54,55,57,56,58,59,57,60,61,62,63,64,65],[66,59,67],[48,68,69],[42,70],[71,72,73,74,75,76,77,78],[],[],[15],[15,15,15,46],[],[79,79,79,18,18,18,18],[18,18,15,80],[39,18,18,15,15,15,15,15,18,18,18,15,15,15,18,18,15,39,15,15],[18,18,18],[15,81],[18,18,18,18,18,18,18,18,18],[82,39,83,18]]
theorem A8a:((Tryz.prog.funcs.toList.drop 0).take 38).map Tryz.prog.leadsTo=lt0:=by kernel_rfl
def lt1:List ey:=[[15,18,39,41],[15],[18],[15],[84],[],[46],[],[70],[],[85,86,88,90,92,93,95,97,99,101,103,104,106,107,108,109],[91,85,110,111],[],[],[112,113,114,115,116,118,117],[119,120],[123,124,125,126],[127,128],[129],[66,130,131,132],[57,128,66],[133,134,135,136],[127,137,64],[130,131,137,138],[131,130,137,64],[132,137,137],[],[140,139,141,127,132,137,142,143,64],[91,144,145,146,148,149],[66,150,59,151],[152,153,155,154],[156,156,156],[],[48,157,69,107],[158,160,159],[161,162,164,163],[165,166,167,168],[164,170,169]]
theorem A79:((Tryz.prog.funcs.toList.drop 38).take 38).map Tryz.prog.leadsTo=lt1:=by kernel_rfl
def lt2:List ey:=[[171,172,173,174,176,175,171,164,177],[179,164,178,164,180],[115,181,52],[182,182,182],[39,15,18,18,18,15,183],[15,18,18,18],[15],[18,18,18,18],[],[],[87],[184],[89],[185,186],[91],[148,188,148,148,189,190],[],[94],[191,192,193],[96],[194,195],[98],[],[100],[197,198,199,200],[102],[197],[],[105],[],[],[],[201],[202],[203],[204],[205,113,118,117],[206,207]]
theorem A78:((Tryz.prog.funcs.toList.drop 76).take 38).map Tryz.prog.leadsTo=lt2:=by kernel_rfl
def lt3:List ey:=[[],[116],[135],[],[208,208,208,209],[66,59],[121,122],[211,210,212,210,213],[140,214,135,216,215,218,219],[],[],[],[],[220],[221],[],[131,132,127],[223,222],[127,127,127],[],[],[],[],[128],[204],[224],[91,226,225],[66,228],[221],[221],[229,148,227,227,230],[231],[147],[148,148,148,148],[],[],[232,232,232,232,232,232],[233,234,235,236,237,238,239,240]]
theorem A77:((Tryz.prog.funcs.toList.drop 114).take 38).map Tryz.prog.leadsTo=lt3:=by kernel_rfl
def lt4:List ey:=[[241,242],[227,244,230],[],[245],[246],[48,247,248,249,250,251,164,252,164,253,254,255],[256,257,258,257,260,259,261,162],[262],[263],[264],[220],[265,266,267,217,268,269],[],[87,69,246,270,270,270],[271,272,274],[247,94,275,261,162,276,277,278,279],[280,282,281,282,281,283,281,284,285],[252,286,287,288],[267,289,290,291],[],[292,293,217,217,294],[295,297,296],[298,199],[298,299,299],[300,301],[102,294],[302,303,304,305,307,306],[308,264],[302,309],[310,311,264,161,312,313],[18],[18,18],[314],[315],[187],[316,316,316,316,316,317,318],[148,148,148,148,217,217,320,321],[148,148,148]]
theorem A76:((Tryz.prog.funcs.toList.drop 152).take 38).map Tryz.prog.leadsTo=lt4:=by kernel_rfl
def lt5:List ey:=[[148,148,148,148,148],[109,322,324,244],[162,162,325,326],[327,328,197,329,109,324,244],[330],[196],[331,331,331,331],[],[199],[],[106],[],[],[204],[332,333],[],[],[],[334],[335,336,336,336,337],[338],[339],[128],[66,59,214,340],[66,341,342,228,343,344],[345],[217],[27],[346],[346,347,210],[348],[214,217],[],[],[],[349],[227],[350,350]]
theorem A75:((Tryz.prog.funcs.toList.drop 190).take 38).map Tryz.prog.leadsTo=lt5:=by kernel_rfl
def lt6:List ey:=[[351],[],[],[],[],[352,59,213],[66,127,59],[66,353,59,354,221,340],[127,355],[355],[],[356,355],[357,358,359,360],[361],[243],[323],[227,227,230],[362],[],[213,363,85,54,365,364],[191,109,366],[367,368],[164,106],[98,207,106,369],[286],[370,371,372,370,370],[171,164,373],[112,164,374,374,374],[],[275,375,244,376],[323],[202],[],[94,257,136,375,244],[247,377,378,379,380,67,378,381],[],[257,261],[96,96,382,382,106,384,383]]
theorem A74:((Tryz.prog.funcs.toList.drop 228).take 38).map Tryz.prog.leadsTo=lt6:=by kernel_rfl
def lt7:List ey:=[[385,386,387],[96,382,388,389],[390,391,391,392,393,393,395,394],[],[184,156,246,398,397,396],[98,251,106,106,369,369,399,399,400,401,401,401,402,402,400,402],[273],[],[89,89,403,403,393,403],[404],[66,377,379],[89,66,405,201,406,407],[408,381,133,134,135,136],[135],[409,403],[410,273,411,412,412,413],[414,415,416],[417,415,418],[89,89,419],[],[],[],[],[420],[289,421],[],[102,373,423,422],[],[424],[297],[425,425],[426],[100,427,198,428],[],[429],[],[253,305],[371,372,430,431]]
theorem A73:((Tryz.prog.funcs.toList.drop 266).take 38).map Tryz.prog.leadsTo=lt7:=by kernel_rfl
def lt8:List ey:=[[430,432],[],[433],[],[66,214,434,435],[430,432],[164,51],[273],[162],[436,437,438,439,439,164,51],[207],[],[],[440],[319],[441,442],[443],[],[323],[],[],[],[244,244,230],[],[162],[444],[],[],[],[],[445],[446,447],[446],[],[],[127],[],[]]
theorem A72:((Tryz.prog.funcs.toList.drop 304).take 38).map Tryz.prog.leadsTo=lt8:=by kernel_rfl
def lt9:List ey:=[[148,351],[448],[],[],[142,143],[],[],[449,449,450,450],[],[],[66,451,221,217,452],[221],[66,342],[131],[66,59,398],[],[],[453,454],[],[],[],[],[455],[],[],[456],[207],[],[],[370],[370],[102,424,457],[164,458],[460,459],[],[59,408,381],[59],[67,461,378,53,461,378,54,378]]
theorem A71:((Tryz.prog.funcs.toList.drop 342).take 38).map Tryz.prog.leadsTo=lt9:=by kernel_rfl
def A47:List ey:=[[110,214,128,462,379],[],[],[463],[],[],[196,464,465,466,466,467],[196,331,465],[468,464,269],[469,470,471,472,125],[395,106,391],[],[473,474],[473,476],[477],[],[478],[396],[],[106,106,369,479,480,396,396],[398],[273],[396],[481,422],[],[],[141,128,127,482,422],[483,484],[],[89,89,403,403,485,403],[486],[473,475],[411,273],[],[187,488,487],[490],[],[187,491,487]]
theorem A4z:((Tryz.prog.funcs.toList.drop 380).take 38).map Tryz.prog.leadsTo=A47:=by kernel_rfl
def A46:List ey:=[[],[],[167,492],[493],[345],[],[494,422],[],[200,495,496,496,425],[199],[199],[],[497,498],[499,500],[],[],[448],[],[501],[460,502],[],[],[],[],[398],[],[],[503,504,505,506],[507],[508],[],[],[509,450,450],[127,127,127,127,141,127],[353,353,510,510],[],[511],[]]
theorem A4y:((Tryz.prog.funcs.toList.drop 418).take 38).map Tryz.prog.leadsTo=A46:=by kernel_rfl
def A45:List ey:=[[],[],[512,112,513],[514,515,516,517,518,519,520,521,459,459],[522,523],[],[524,66,85,525,527,526,526,528,529,530],[],[331,466,106,331],[464,464,331],[],[466,466,394],[],[394],[531,532,533],[460,534],[227,227,535,230],[],[475],[],[475],[536],[],[398,393],[398,479],[],[406],[187,419,392],[],[537],[],[],[489],[538,317],[],[489],[540],[541]]
theorem A4x:((Tryz.prog.funcs.toList.drop 456).take 38).map Tryz.prog.leadsTo=A45:=by kernel_rfl
def A44:List ey:=[[],[106],[],[],[227],[],[542],[],[543,544,545,546,547,548,549,550,551,502,502],[],[523,552,553],[],[554,531],[],[],[555,555,555],[556],[557,557,557],[206],[558],[],[559,559],[560,561],[562,562,562,563],[],[],[],[],[],[],[],[221,85,139,530,127,143,142],[],[85,128,142,143],[221,564],[353,354,530],[565,222],[566,567]]
theorem A4w:((Tryz.prog.funcs.toList.drop 494).take 38).map Tryz.prog.leadsTo=A44:=by kernel_rfl
def A43:List ey:=[[469],[568,437,438],[569,570,571,572,573,574,575,576,534,534],[227],[106],[],[539],[319,577,578,480,479,578],[579,168],[264,162,420],[580,580,580],[549],[581,581],[560,561],[582,582,582,583],[],[549,549,549],[350,350],[549,549],[549,549,549,549],[],[],[],[],[398,398,398],[],[584],[],[460],[],[563],[585,585,585],[530,127,127,127,217,217],[],[],[],[],[]]
theorem A4v:((Tryz.prog.funcs.toList.drop 532).take 38).map Tryz.prog.leadsTo=A43:=by kernel_rfl
def A42:List ey:=[[586,586],[560,561],[587,587,587,588],[],[],[],[],[],[577,480,479],[589,590,591,274],[],[549,549],[583],[592,592,592],[],[],[],[588],[593,593,593],[207],[],[],[549],[],[],[],[],[],[],[],[],[],[],[],[],[],[],[]]
theorem A4u:((Tryz.prog.funcs.toList.drop 570).take 38).map Tryz.prog.leadsTo=A42:=by kernel_rfl
def A41:List ey:=[[],[],[],[],[],[],[],[],[],[]]
theorem A4t:((Tryz.prog.funcs.toList.drop 608).take 38).map Tryz.prog.leadsTo=A41:=by kernel_rfl
def ltT:List (List ey):=[lt0,lt1,lt2,lt3,lt4,lt5,lt6,lt7,lt8,lt9,A47,A46,A45,A44,A43,A42,A41]
theorem A0c:Tryz.prog.funcs.toList.length<=38*ltT.length:=by
 have h:Nat.ble Tryz.prog.funcs.toList.length (38*ltT.length)=true:=by kernel_rfl
 exact aF h
theorem A0b:∀(i:Nat) r,ltT[i]?=some r->((Tryz.prog.funcs.toList.drop (38*i)).take 38).map Tryz.prog.leadsTo=r:=by
 intro i r h;unfold ltT at h;rcases i with _|i
 .cases h;exact A8a
 rcases i with _|i
 .cases h;exact A79
 rcases i with _|i
 .cases h;exact A78
 rcases i with _|i
 .cases h;exact A77
 rcases i with _|i
 .cases h;exact A76
 rcases i with _|i
 .cases h;exact A75
 rcases i with _|i
 .cases h;exact A74
 rcases i with _|i
 .cases h;exact A73
 rcases i with _|i
 .cases h;exact A72
 rcases i with _|i
 .cases h;exact A71
 rcases i with _|i
 .cases h;exact A4z
 rcases i with _|i
 .cases h;exact A4y
 rcases i with _|i
 .cases h;exact A4x
 rcases i with _|i
 .cases h;exact A4w
 rcases i with _|i
 .cases h;exact A4v
 rcases i with _|i
 .cases h;exact A4u
 rcases i with _|i
 .cases h;exact A4t
 cases h
theorem A40(f:Nat):(Tryz.prog.funcs[f]?).elim [] Tryz.prog.leadsTo=Y5 ltT f:=by rw[←cH];exact A1t A0b A0c f
def clC:ey:=[3,4,11,5,14,16,31,79,182,18,15,30,32,80,39,183,33,34,35,81,36,37,82,83,38,41,40,28,29,46,70,10,23,48,85,86,87,184,314,207,88,89,185,315,186,187,316,317,440,318,319,441,442,398,90,91,148,188,217,27,320,443,321,189,190,92,93,94,191,109,202,322,323,324,244,227,350,230,192,162,220,348,325,326,193,327,328,197,329,444,95,96,194,330,195,196,331,97,98,99,100,198,199,200,106,101,102,103,104,105,107,108,201,68,152,241,361,242,243,153,155,245,362,154,69,156,246,7,20,49,110,203,204,332,333,111,50,51,52,112,205,113,206,118,208,334,445,503,504,523,552,553,505,506,554,531,566,567,209,335,446,507,447,508,336,337,117,114,115,116,135,21,53,119,66,144,229,145,231,146,147,149,59,133,134,136,120,121,211,339,127,210,338,212,128,221,214,341,342,351,228,343,448,344,213,340,122,140,226,225,349,449,450,509,555,216,215,345,218,346,142,143,219,347,54,123,124,125,126,55,57,130,131,223,222,132,56,129,58,60,137,64,61,138,62,63,65,139,224,141,22,67,150,232,151,233,352,451,452,353,510,556,234,235,354,236,355,237,238,239,356,240,357,358,359,453,454,511,557,360,8,25,71,157,247,363,365,364,455,248,366,249,367,456,368,250,164,251,369,252,286,253,370,371,372,254,171,373,424,494,422,457,255,374,458,512,513,558,584,72,158,256,257,275,404,375,460,522,459,514,515,559,516,560,561,517,562,563,585,518,519,520,521,376,258,260,259,261,160,263,159,262,377,408,381,378,379,461,380,462,524,525,530,565,527,526,528,564,529,73,161,264,163,265,382,384,383,463,266,385,386,464,466,465,467,394,477,536,387,267,388,468,269,389,469,470,532,533,568,437,502,543,549,544,581,545,546,582,583,592,547,548,550,551,438,471,534,569,570,586,571,572,587,588,593,573,574,575,576,472,535,268,390,395,391,392,473,474,475,393,476,74,165,270,397,396,478,166,271,399,479,480,400,401,273,402,272,274,403,481,167,276,277,405,406,482,407,483,419,484,278,279,168,280,409,485,537,282,414,488,489,538,539,577,578,487,415,490,416,281,410,486,411,412,413,283,417,491,418,284,285,75,170,289,420,492,540,579,589,590,591,290,421,493,541,291,169,287,288,76,172,292,423,293,294,173,295,297,426,495,496,425,296,174,298,427,428,176,300,429,301,175,299,177,77,179,308,434,435,178,302,305,303,430,497,498,431,499,500,542,580,304,432,307,306,433,180,309,78,181,310,311,312,313,436,501,439,12,13,26,6,17,19,42,84,43,44,45,47,9,24]
theorem A6h:(ltT.flatten.map λr=>r.length+1).sum=1830:=by kernel_rfl
theorem A8x:clM ltT (1+1830) [3] [] 0=clC:=by kernel_rfl
theorem S7:Tryz.prog.closure 3=clC:=by unfold Program.closure;rw[Anc A0b A0c,A6h,Ad3 A40 _ _ _ 0 (λf=>by simp),←A8x]
namespace drillInputs
theorem own:ownKnob Tryz.prog.godebug=none:=by kernel_rfl
theorem lo0:(List.range' 0 100).all (rowFine Tryz.prog)=true:=by kernel_rfl
theorem lo1:(List.range' 100 100).all (rowFine Tryz.prog)=true:=by kernel_rfl
theorem lo2:(List.range' 200 100).all (rowFine Tryz.prog)=true:=by kernel_rfl
theorem lo3:(List.range' 300 100).all (rowFine Tryz.prog)=true:=by kernel_rfl
theorem lo4:(List.range' 400 100).all (rowFine Tryz.prog)=true:=by kernel_rfl
theorem lo5:(List.range' 500 100).all (rowFine Tryz.prog)=true:=by kernel_rfl
theorem lo6:(List.range' 600 100).all (rowFine Tryz.prog)=true:=by kernel_rfl
theorem lo7:(List.range' 700 14).all (rowFine Tryz.prog)=true:=by kernel_rfl
theorem loR:List.range Tryz.prog.types.size=List.range' 0 100++List.range' 100 100++List.range' 200 100++List.range' 300 100++List.range' 400 100++List.range' 500 100++List.range' 600 100++List.range' 700 14:=by kernel_rfl
theorem loG:Tryz.prog.globals.all (λg=>decide (g.type<Tryz.prog.types.size))=true:=by kernel_rfl
theorem loF:Tryz.prog.funcs.all (λf=>f.params.all λt=>decide (t<Tryz.prog.types.size))=true:=by kernel_rfl
theorem laidOut:laidOutB Tryz.prog=true:=by unfold laidOutB;rw[loG,loF,loR,ct,ct,ct,ct,ct,ct,ct,lo0,lo1,lo2,lo3,lo4,lo5,lo6,lo7];rfl
theorem unf:Tryz.prog.unfollowed 3=true:=by unfold Program.unfollowed;rw[S7];kernel_rfl
theorem j0:(Rows.drillInputsRow.wf (OpenSpec.ofChange Rows.drillInputsSpec))=true:=by kernel_rfl
theorem j1:(laidOutB Tryz.prog)=true:=laidOut
theorem j2:(mapsRowed Tryz.prog)=true:=by kernel_rfl
theorem j3:(Tryz.f3.params.all (Tryz.prog.readableRec ·))=true:=by kernel_rfl
theorem j4:(namedTie Tryz.prog Rows.drillInputsRow.named Rows.drillInputsSpec.vars)=true:=by kernel_rfl
theorem j5:((Rows.drillInputsRow.stops==[]))=true:=by kernel_rfl
theorem j6:((Tryz.prog.stops==[]))=true:=by kernel_rfl
theorem j7:((Rows.drillInputsRow.knobs==[]))=true:=by kernel_rfl
theorem j8:((Tryz.prog.stopKnobs==[]))=true:=by kernel_rfl
theorem j9:((Rows.drillInputsRow.inPlace==Tryz.prog.inPlace 3))=true:=by unfold Program.inPlace;rw[S7];kernel_rfl
theorem j10:((Rows.drillInputsRow.unfollowed==Tryz.prog.unfollowed 3))=true:=by rw[unf];kernel_rfl
theorem j11:((Rows.drillInputsRow.recurses==Tryz.prog.recurses 3))=true:=by unfold Program.recurses;rw[unf,Bool.true_or];kernel_rfl
theorem j12:((Rows.drillInputsRow.named==Tryz.prog.varsNamed 3))=true:=by unfold Program.varsNamed;rw[S7];kernel_rfl
theorem j13:((Rows.drillInputsRow.maps==(Tryz.f3.params.toList++Rows.drillInputsSpec.plain.varTypes Tryz.prog).any (Tryz.prog.mapsRec ·)))=true:=by kernel_rfl
theorem j14:((Rows.drillInputsRow.ifaces==(Tryz.f3.params.toList++Rows.drillInputsSpec.plain.varTypes Tryz.prog).any (Tryz.prog.ifacesRec ·)))=true:=by kernel_rfl
theorem j15:((Rows.drillInputsRow.mapsOut==Tryz.prog.mapsAmong Tryz.f3.resultTypes.toList))=true:=by kernel_rfl
theorem j16:((Rows.drillInputsRow.loops==(Tryz.f3.params.toList++Rows.drillInputsSpec.plain.varTypes Tryz.prog).any (Tryz.prog.loopsFrom ·)))=true:=by kernel_rfl
theorem j17:((Rows.drillInputsRow.wideKeys==(Tryz.f3.params.toList++Rows.drillInputsSpec.plain.varTypes Tryz.prog++Tryz.f3.resultTypes.toList).any (Tryz.prog.wideKeysFrom ·)))=true:=by kernel_rfl
theorem j18:(Rows.drillInputsSpec.vars.all (Tryz.prog.varReadable ·))=true:=by kernel_rfl
theorem j19:(Tryz.f3.resultTypes.all (λt=>Tryz.prog.readableRec t&&decide (t<Tryz.prog.types.size)))=true:=by kernel_rfl
theorem j20:((Rows.drillInputsRow.ifacesOut==Tryz.f3.resultTypes.toList.any (Tryz.prog.ifacesRec ·)))=true:=by kernel_rfl
theorem j21:((Rows.drillInputsRow.loopsOut==Tryz.f3.resultTypes.toList.any (Tryz.prog.loopsFrom ·)))=true:=by kernel_rfl
theorem j22:((Rows.drillInputsRow.plainKeys==Tryz.prog.plainKeys))=true:=by kernel_rfl
theorem j23:(Rows.drillInputsRow.shortTexts.isNone)=true:=by kernel_rfl
theorem j24:(Tryz.prog.stopsHeard)=true:=by kernel_rfl
theorem j25:(Tryz.prog.mayEnter)=true:=by kernel_rfl
theorem j26:((Rows.drillInputsRow.lifted==Tryz.prog.liftsFinal))=true:=by kernel_rfl
theorem j27:((Tryz.prog.make==some Rows.drillInputsRow.make))=true:=by kernel_rfl
theorem j28:((Rows.drillInputsRow.kinds==(if Rows.drillInputsRow.domain.isEmpty then [] else Tryz.f3.params.toList.map λt=>match Tryz.prog.underlying t with|some (.int k)=>some k|_=>none)))=true:=by kernel_rfl
theorem j29:((Rows.drillInputsRow.pinned==Rows.drillInputsRow.pinnedBy))=true:=by kernel_rfl
theorem j30:((Rows.drillInputsRow.veiled==(Tryz.f3.params.toList++Rows.drillInputsSpec.plain.varTypes Tryz.prog++Tryz.f3.resultTypes.toList).any (Tryz.prog.veiledRec ·)))=true:=by kernel_rfl
theorem j31:(Rows.drillInputsRow.veiledFits Tryz.prog Tryz.f3.params.toList (Tryz.f3.params.toList++Rows.drillInputsSpec.plain.varTypes Tryz.prog++Tryz.f3.resultTypes.toList))=true:=by kernel_rfl
def lkQ(P:Program)(g:Nat):Bool:=!([]:List FuncId).contains g&&(P.funcs[g]?).any λfn=>match fn.body with|some c=>c.looks P|none=>false
theorem lk0:(List.range' 0 100).any (lkQ Tryz.prog)=false:=by kernel_rfl
theorem lk1:(List.range' 100 100).any (lkQ Tryz.prog)=false:=by kernel_rfl
theorem lk2:(List.range' 200 100).any (lkQ Tryz.prog)=false:=by kernel_rfl
theorem lk3:(List.range' 300 100).any (lkQ Tryz.prog)=false:=by kernel_rfl
theorem lk4:(List.range' 400 100).any (lkQ Tryz.prog)=false:=by kernel_rfl
theorem lk5:(List.range' 500 100).any (lkQ Tryz.prog)=false:=by kernel_rfl
theorem lk6:(List.range' 600 18).any (lkQ Tryz.prog)=false:=by kernel_rfl
theorem lkR:List.range Tryz.prog.funcs.size=List.range' 0 100++List.range' 100 100++List.range' 200 100++List.range' 300 100++List.range' 400 100++List.range' 500 100++List.range' 600 18:=by kernel_rfl
theorem lookF:false=Tryz.prog.looks []:=by show false=(List.range Tryz.prog.funcs.size).any (lkQ Tryz.prog);rw[lkR,cr,cr,cr,cr,cr,cr,lk0,lk1,lk2,lk3,lk4,lk5,lk6];rfl
theorem c1:Rows.drillInputsRow.wfByText (OpenSpec.ofChange Rows.drillInputsSpec)=true:=by kernel_rfl
theorem c2 : Tryz.pinned.checked.prog.mainIs = some (true, "25730d80c671e43d2fadb57447540903924105fc30da05128673d97d362512f9".toList) := by kernel_rfl
theorem c0:Tryz.prog.funcs.toList.any Func.goes=false:=by kernel_rfl
theorem c3:false=Rows.drillInputsRow.goesBy Tryz.pinned.checked.prog:=A13 (P:=Tryz.prog) rfl c0
end drillInputs
end Go.Proofs.YtedojeimigneaaaGreatDoor
