/- The walks of the plain functions. Made by a program of mine. Conditions: none. -/
import Derived.Test.YtebfneaimafcoaaGreatQ4S
import Derived.Test.YtebfneaimafcoaaGreatQ4A
import Derived.Test.YtebfneaimafcoaaGreatProg
set_option linter.unusedVariables false
set_option linter.unusedSimpArgs false
set_option linter.defProp false
set_option maxRecDepth 20000
open Go Go.Proofs
namespace Go.Av
theorem mixed:Tryz.prog.follows .mixedOrders=true:=by kernel_rfl
def bodyOf(f:Func):Code:=f.body.getD .skip
theorem tv2:tview Tryz.prog 2=some (.int .i64):=by kernel_rfl
theorem ts2:tsize Tryz.prog 2=1:=by kernel_rfl
def pt2:= @ptW _ _ _ tv2 rfl
def st2:= @stW _ _ ts2
theorem tv3:tview Tryz.prog 3=some (.int .i64):=by kernel_rfl
theorem ts3:tsize Tryz.prog 3=1:=by kernel_rfl
def pt3:= @ptW _ _ _ tv3 rfl
def st3:= @stW _ _ ts3
theorem tv4:tview Tryz.prog 4=some (.bool):=by kernel_rfl
theorem ts4:tsize Tryz.prog 4=1:=by kernel_rfl
def pt4:= @ptW _ _ _ tv4 rfl
def sb4:= @sbW _ _ ts4
theorem tv5:tview Tryz.prog 5=some (.int .u8):=by kernel_rfl
theorem ts5:tsize Tryz.prog 5=1:=by kernel_rfl
def pt5:= @ptW _ _ _ tv5 rfl
def st5:= @stW _ _ ts5
theorem tv9:tview Tryz.prog 9=some (.str):=by kernel_rfl
theorem ts9:tsize Tryz.prog 9=1:=by kernel_rfl
def pt9:= @ptW _ _ _ tv9 rfl
theorem le9: ∀ {s:ByteArray},abuiltin Tryz.prog .len #[9] [.v (.string s)]=some (.v (.int .i64 s.size)):=len_str tv9
theorem ix9: ∀ {s:ByteArray} {i:Int},aindex Tryz.prog 9 (.v (.string s)) i=aixS s i:=ix_str tv9
theorem tv22:tview Tryz.prog 22=some (.slice 24 1 4):=by kernel_rfl
theorem ts22:tsize Tryz.prog 22=1:=by kernel_rfl
def pt22:= @ptW _ _ _ tv22 rfl
def ia22:= @iaW _ _ _ _ _ tv22
def io22:= @ioW _ _ _ _ _ tv22
def le22:= @leW _ _ _ _ _ tv22
theorem tz24:tzero Tryz.prog 24=some [.v (.int .u32 0)]:=by kernel_rfl
theorem mk22: ∀ {a b:Int} {k k':IntKind},0<=a->a<=b->b<=140737488355328->b*4<=140737488355328->mkX Tryz.prog 22 (.v (.int k a)) (.v (.int k' b))=some (.fresh 1 a.toNat (lm (ik .u32) (List.replicate a.toNat 0))):=mk_ik tv22 tz24
def ap22:= @apW _ _ _ _ _ _ tv22 tz24 rfl (by decide)
def bs22:= @bsW _ _ _ _ _ _ tv22 tz24 rfl (by decide)
def ao22:= @aoW _ _ _ _ _ tv22
def as22:= @asW _ _ _ _ _ tv22
def sa22:= @saW _ _ ts22
def so22:= @soW _ _ ts22
theorem tv24:tview Tryz.prog 24=some (.int .u32):=by kernel_rfl
theorem ts24:tsize Tryz.prog 24=1:=by kernel_rfl
def pt24:= @ptW _ _ _ tv24 rfl
def st24:= @stW _ _ ts24
theorem tv25:tview Tryz.prog 25=some (.other):=by kernel_rfl
theorem ts25:tsize Tryz.prog 25=1:=by kernel_rfl
def pt25:= @ptW _ _ _ tv25 rfl
theorem tv27:tview Tryz.prog 27=some (.slice 3 1 8):=by kernel_rfl
theorem ts27:tsize Tryz.prog 27=1:=by kernel_rfl
def pt27:= @ptW _ _ _ tv27 rfl
def ia27:= @iaW _ _ _ _ _ tv27
def io27:= @ioW _ _ _ _ _ tv27
def le27:= @leW _ _ _ _ _ tv27
theorem tz3:tzero Tryz.prog 3=some [.v (.int .i64 0)]:=by kernel_rfl
theorem mk27: ∀ {a b:Int} {k k':IntKind},0<=a->a<=b->b<=140737488355328->b*8<=140737488355328->mkX Tryz.prog 27 (.v (.int k a)) (.v (.int k' b))=some (.fresh 1 a.toNat (lm (ik .i64) (List.replicate a.toNat 0))):=mk_ik tv27 tz3
def ap27:= @apW _ _ _ _ _ _ tv27 tz3 rfl (by decide)
def bs27:= @bsW _ _ _ _ _ _ tv27 tz3 rfl (by decide)
def sa27:= @saW _ _ ts27
def so27:= @soW _ _ ts27
theorem tv28:tview Tryz.prog 28=some (.slice 2 1 8):=by kernel_rfl
theorem ts28:tsize Tryz.prog 28=1:=by kernel_rfl
def pt28:= @ptW _ _ _ tv28 rfl
def ia28:= @iaW _ _ _ _ _ tv28
def io28:= @ioW _ _ _ _ _ tv28
def le28:= @leW _ _ _ _ _ tv28
theorem tz2:tzero Tryz.prog 2=some [.v (.int .i64 0)]:=by kernel_rfl
theorem mk28: ∀ {a b:Int} {k k':IntKind},0<=a->a<=b->b<=140737488355328->b*8<=140737488355328->mkX Tryz.prog 28 (.v (.int k a)) (.v (.int k' b))=some (.fresh 1 a.toNat (lm (ik .i64) (List.replicate a.toNat 0))):=mk_ik tv28 tz2
def ap28:= @apW _ _ _ _ _ _ tv28 tz2 rfl (by decide)
def bs28:= @bsW _ _ _ _ _ _ tv28 tz2 rfl (by decide)
def sa28:= @saW _ _ ts28
def so28:= @soW _ _ ts28
theorem tv29:tview Tryz.prog 29=some (.slice 4 1 1):=by kernel_rfl
theorem ts29:tsize Tryz.prog 29=1:=by kernel_rfl
def pt29:= @ptW _ _ _ tv29 rfl
def ia29:= @iaW _ _ _ _ _ tv29
def io29:= @ioW _ _ _ _ _ tv29
def le29:= @leW _ _ _ _ _ tv29
theorem tz4:tzero Tryz.prog 4=some [.v (.bool false)]:=by kernel_rfl
theorem mk29: ∀ {a b:Int} {k k':IntKind},0<=a->a<=b->b<=140737488355328->b*1<=140737488355328->mkX Tryz.prog 29 (.v (.int k a)) (.v (.int k' b))=some (.fresh 1 a.toNat (lm bk (List.replicate a.toNat false))):=mk_bk tv29 tz4
def ap29:= @apW _ _ _ _ _ _ tv29 tz4 rfl (by decide)
def bs29:= @bsW _ _ _ _ _ _ tv29 tz4 rfl (by decide)
def sa29:= @saW _ _ ts29
def so29:= @soW _ _ ts29
theorem tv31:tview Tryz.prog 31=some (.struct):=by kernel_rfl
theorem ts31:tsize Tryz.prog 31=5:=by kernel_rfl
theorem pt31: ∀ {xs:List AV} {off:Nat},part Tryz.prog xs 31 off=if off+5<=xs.length then some (.agg ((xs.drop off).take 5))else none:=part_struct tv31 ts31
theorem sg31: ∀ {h:Heap} {id:Id} {off:Nat} {ys:List AV},ys.length=5->stX Tryz.prog 31 h (.ptr id off 0) (.agg ys)=(h.get id).bind (stH Tryz.prog 31 h id off ys):=stX_aggH ts31 (by decide)
theorem tv32:tview Tryz.prog 32=some (.int .i64):=by kernel_rfl
theorem ts32:tsize Tryz.prog 32=1:=by kernel_rfl
def pt32:= @ptW _ _ _ tv32 rfl
def st32:= @stW _ _ ts32
theorem tv38:tview Tryz.prog 38=some (.struct):=by kernel_rfl
theorem ts38:tsize Tryz.prog 38=36:=by kernel_rfl
theorem pt38: ∀ {xs:List AV} {off:Nat},part Tryz.prog xs 38 off=if off+36<=xs.length then some (.agg ((xs.drop off).take 36))else none:=part_struct tv38 ts38
theorem sg38: ∀ {h:Heap} {id:Id} {off:Nat} {ys:List AV},ys.length=36->stX Tryz.prog 38 h (.ptr id off 0) (.agg ys)=(h.get id).bind (stH Tryz.prog 38 h id off ys):=stX_aggH ts38 (by decide)
theorem tv39:tview Tryz.prog 39=some (.slice 31 5 104):=by kernel_rfl
theorem ts39:tsize Tryz.prog 39=1:=by kernel_rfl
def pt39:= @ptW _ _ _ tv39 rfl
def ia39:= @iaW _ _ _ _ _ tv39
def io39:= @ioW _ _ _ _ _ tv39
def le39:= @leW _ _ _ _ _ tv39
theorem tz31:tzero Tryz.prog 31=some [.v (.int .i64 0),.v (.slice none 0 0),.v (.slice none 0 0),.v (.slice none 0 0),.v (.slice none 0 0)]:=by kernel_rfl
def ap39:= @apW _ _ _ _ _ _ tv39 tz31 rfl (by decide)
theorem af39: ∀ {lvl d m:Nat} {h:Heap} {id:Id} {n by_:Nat} {l b:List T_Tensor},m=b.length->n+m<=140737488355328->(n+m)*by_<=140737488355328->appI lvl d 5 by_ h m (fm c_T_Tensor b) id n n (.sl true true 5 n (fm c_T_Tensor l))=some (.own id 0 (n+m) (n+m),h.set id (.sl true true 5 (n+m) (fm c_T_Tensor (l++b)))):=λh1 h2 h3=>appI_fm c_T_Tensor_len h1 h2 h3 (one_fm c_T_Tensor_one)
def bs39:= @bsW _ _ _ _ _ _ tv39 tz31 rfl (by decide)
def sa39:= @saW _ _ ts39
def so39:= @soW _ _ ts39
theorem tv51:tview Tryz.prog 51=some (.other):=by kernel_rfl
theorem ts51:tsize Tryz.prog 51=1:=by kernel_rfl
def pt51:= @ptW _ _ _ tv51 rfl
theorem tv53:tview Tryz.prog 53=some (.struct):=by kernel_rfl
theorem ts53:tsize Tryz.prog 53=48:=by kernel_rfl
theorem pt53: ∀ {xs:List AV} {off:Nat},part Tryz.prog xs 53 off=if off+48<=xs.length then some (.agg ((xs.drop off).take 48))else none:=part_struct tv53 ts53
theorem tv54:tview Tryz.prog 54=some (.slice 60 8 144):=by kernel_rfl
theorem ts54:tsize Tryz.prog 54=1:=by kernel_rfl
def pt54:= @ptW _ _ _ tv54 rfl
def ia54:= @iaW _ _ _ _ _ tv54
def io54:= @ioW _ _ _ _ _ tv54
def le54:= @leW _ _ _ _ _ tv54
theorem tz60:tzero Tryz.prog 60=some [.v (.int .i64 0),.v (.slice none 0 0),.v (.bool false),.v (.int .i64 0),.v (.slice none 0 0),.v (.slice none 0 0),.v (.slice none 0 0),.v (.slice none 0 0)]:=by kernel_rfl
def ap54:= @apW _ _ _ _ _ _ tv54 tz60 rfl (by decide)
theorem af54: ∀ {lvl d m:Nat} {h:Heap} {id:Id} {n by_:Nat} {l b:List T_Val},m=b.length->n+m<=140737488355328->(n+m)*by_<=140737488355328->appI lvl d 8 by_ h m (fm c_T_Val b) id n n (.sl true true 8 n (fm c_T_Val l))=some (.own id 0 (n+m) (n+m),h.set id (.sl true true 8 (n+m) (fm c_T_Val (l++b)))):=λh1 h2 h3=>appI_fm c_T_Val_len h1 h2 h3 (one_fm c_T_Val_one)
def bs54:= @bsW _ _ _ _ _ _ tv54 tz60 rfl (by decide)
def sa54:= @saW _ _ ts54
def so54:= @soW _ _ ts54
theorem tv60:tview Tryz.prog 60=some (.struct):=by kernel_rfl
theorem ts60:tsize Tryz.prog 60=8:=by kernel_rfl
theorem pt60: ∀ {xs:List AV} {off:Nat},part Tryz.prog xs 60 off=if off+8<=xs.length then some (.agg ((xs.drop off).take 8))else none:=part_struct tv60 ts60
theorem sg60: ∀ {h:Heap} {id:Id} {off:Nat} {ys:List AV},ys.length=8->stX Tryz.prog 60 h (.ptr id off 0) (.agg ys)=(h.get id).bind (stH Tryz.prog 60 h id off ys):=stX_aggH ts60 (by decide)
theorem tv66:tview Tryz.prog 66=some (.struct):=by kernel_rfl
theorem ts66:tsize Tryz.prog 66=39:=by kernel_rfl
theorem pt66: ∀ {xs:List AV} {off:Nat},part Tryz.prog xs 66 off=if off+39<=xs.length then some (.agg ((xs.drop off).take 39))else none:=part_struct tv66 ts66
theorem sg66: ∀ {h:Heap} {id:Id} {off:Nat} {ys:List AV},ys.length=39->stX Tryz.prog 66 h (.ptr id off 0) (.agg ys)=(h.get id).bind (stH Tryz.prog 66 h id off ys):=stX_aggH ts66 (by decide)
theorem tv68:tview Tryz.prog 68=some (.slice 27 1 24):=by kernel_rfl
theorem ts68:tsize Tryz.prog 68=1:=by kernel_rfl
def pt68:= @ptW _ _ _ tv68 rfl
def ia68:= @iaW _ _ _ _ _ tv68
def io68:= @ioW _ _ _ _ _ tv68
def le68:= @leW _ _ _ _ _ tv68
theorem tz27:tzero Tryz.prog 27=some [.v (.slice none 0 0)]:=by kernel_rfl
def bs68:= @bsW _ _ _ _ _ _ tv68 tz27 rfl (by decide)
def sa68:= @saW _ _ ts68
def so68:= @soW _ _ ts68
theorem tv85:tview Tryz.prog 85=some (.other):=by kernel_rfl
theorem ts85:tsize Tryz.prog 85=1:=by kernel_rfl
def pt85:= @ptW _ _ _ tv85 rfl
theorem fo31_0:fieldOf Tryz.prog 31 0=some (0,3):=by kernel_rfl
def fp31_0:= @fpW _ _ _ _ _ _ fo31_0 ts3 (by decide)
def fr31_0:= @frW _ _ _ _ _ _ fo31_0 ts3 (by decide)
theorem fo31_1:fieldOf Tryz.prog 31 1=some (1,27):=by kernel_rfl
def fp31_1:= @fpW _ _ _ _ _ _ fo31_1 ts27 (by decide)
def fr31_1:= @frW _ _ _ _ _ _ fo31_1 ts27 (by decide)
theorem fo31_2:fieldOf Tryz.prog 31 2=some (2,22):=by kernel_rfl
def fp31_2:= @fpW _ _ _ _ _ _ fo31_2 ts22 (by decide)
def fr31_2:= @frW _ _ _ _ _ _ fo31_2 ts22 (by decide)
theorem fo31_3:fieldOf Tryz.prog 31 3=some (3,28):=by kernel_rfl
def fp31_3:= @fpW _ _ _ _ _ _ fo31_3 ts28 (by decide)
def fr31_3:= @frW _ _ _ _ _ _ fo31_3 ts28 (by decide)
theorem fd31_3: ∀ {xs:List AV},fdX Tryz.prog 31 3 (.agg xs)=part Tryz.prog xs 28 3:=fdX_at fo31_3
theorem fo31_4:fieldOf Tryz.prog 31 4=some (4,29):=by kernel_rfl
def fp31_4:= @fpW _ _ _ _ _ _ fo31_4 ts29 (by decide)
def fr31_4:= @frW _ _ _ _ _ _ fo31_4 ts29 (by decide)
theorem fo38_1:fieldOf Tryz.prog 38 1=some (1,27):=by kernel_rfl
def fp38_1:= @fpW _ _ _ _ _ _ fo38_1 ts27 (by decide)
def fr38_1:= @frW _ _ _ _ _ _ fo38_1 ts27 (by decide)
theorem fo38_3:fieldOf Tryz.prog 38 3=some (3,4):=by kernel_rfl
def fp38_3:= @fpW _ _ _ _ _ _ fo38_3 ts4 (by decide)
def fr38_3:= @frW _ _ _ _ _ _ fo38_3 ts4 (by decide)
theorem fo38_4:fieldOf Tryz.prog 38 4=some (4,4):=by kernel_rfl
def fp38_4:= @fpW _ _ _ _ _ _ fo38_4 ts4 (by decide)
def fr38_4:= @frW _ _ _ _ _ _ fo38_4 ts4 (by decide)
theorem fo53_0:fieldOf Tryz.prog 53 0=some (0,3):=by kernel_rfl
def fp53_0:= @fpW _ _ _ _ _ _ fo53_0 ts3 (by decide)
def fr53_0:= @frW _ _ _ _ _ _ fo53_0 ts3 (by decide)
theorem fo53_1:fieldOf Tryz.prog 53 1=some (1,38):=by kernel_rfl
def fp53_1:= @fpW _ _ _ _ _ _ fo53_1 ts38 (by decide)
def fr53_1:= @frW _ _ _ _ _ _ fo53_1 ts38 (by decide)
theorem fo53_2:fieldOf Tryz.prog 53 2=some (37,39):=by kernel_rfl
def fp53_2:= @fpW _ _ _ _ _ _ fo53_2 ts39 (by decide)
def fr53_2:= @frW _ _ _ _ _ _ fo53_2 ts39 (by decide)
theorem fo53_3:fieldOf Tryz.prog 53 3=some (38,31):=by kernel_rfl
def fp53_3:= @fpW _ _ _ _ _ _ fo53_3 ts31 (by decide)
def fr53_3:= @frW _ _ _ _ _ _ fo53_3 ts31 (by decide)
theorem fo53_4:fieldOf Tryz.prog 53 4=some (43,31):=by kernel_rfl
def fp53_4:= @fpW _ _ _ _ _ _ fo53_4 ts31 (by decide)
def fr53_4:= @frW _ _ _ _ _ _ fo53_4 ts31 (by decide)
theorem fo60_0:fieldOf Tryz.prog 60 0=some (0,3):=by kernel_rfl
def fp60_0:= @fpW _ _ _ _ _ _ fo60_0 ts3 (by decide)
def fr60_0:= @frW _ _ _ _ _ _ fo60_0 ts3 (by decide)
theorem fd60_0: ∀ {xs:List AV},fdX Tryz.prog 60 0 (.agg xs)=part Tryz.prog xs 3 0:=fdX_at fo60_0
theorem fo60_1:fieldOf Tryz.prog 60 1=some (1,27):=by kernel_rfl
def fp60_1:= @fpW _ _ _ _ _ _ fo60_1 ts27 (by decide)
def fr60_1:= @frW _ _ _ _ _ _ fo60_1 ts27 (by decide)
theorem fd60_1: ∀ {xs:List AV},fdX Tryz.prog 60 1 (.agg xs)=part Tryz.prog xs 27 1:=fdX_at fo60_1
theorem fo60_2:fieldOf Tryz.prog 60 2=some (2,4):=by kernel_rfl
def fp60_2:= @fpW _ _ _ _ _ _ fo60_2 ts4 (by decide)
def fr60_2:= @frW _ _ _ _ _ _ fo60_2 ts4 (by decide)
theorem fo60_3:fieldOf Tryz.prog 60 3=some (3,31):=by kernel_rfl
def fp60_3:= @fpW _ _ _ _ _ _ fo60_3 ts31 (by decide)
def fr60_3:= @frW _ _ _ _ _ _ fo60_3 ts31 (by decide)
theorem fd60_3: ∀ {xs:List AV},fdX Tryz.prog 60 3 (.agg xs)=part Tryz.prog xs 31 3:=fdX_at fo60_3
theorem fo66_0:fieldOf Tryz.prog 66 0=some (0,3):=by kernel_rfl
def fp66_0:= @fpW _ _ _ _ _ _ fo66_0 ts3 (by decide)
def fr66_0:= @frW _ _ _ _ _ _ fo66_0 ts3 (by decide)
theorem fo66_1:fieldOf Tryz.prog 66 1=some (1,38):=by kernel_rfl
def fp66_1:= @fpW _ _ _ _ _ _ fo66_1 ts38 (by decide)
def fr66_1:= @frW _ _ _ _ _ _ fo66_1 ts38 (by decide)
theorem fo66_2:fieldOf Tryz.prog 66 2=some (37,54):=by kernel_rfl
def fp66_2:= @fpW _ _ _ _ _ _ fo66_2 ts54 (by decide)
def fr66_2:= @frW _ _ _ _ _ _ fo66_2 ts54 (by decide)
theorem fo66_3:fieldOf Tryz.prog 66 3=some (38,3):=by kernel_rfl
def fp66_3:= @fpW _ _ _ _ _ _ fo66_3 ts3 (by decide)
def fr66_3:= @frW _ _ _ _ _ _ fo66_3 ts3 (by decide)
def bl31:= @blW _ _ _ tz31 tv31
theorem fl31_0:flP Tryz.prog 31 0=some (0,1):= @flW _ _ _ _ _ _ fo31_0 ts3
theorem fl31_1:flP Tryz.prog 31 1=some (1,1):= @flW _ _ _ _ _ _ fo31_1 ts27
theorem fl31_2:flP Tryz.prog 31 2=some (2,1):= @flW _ _ _ _ _ _ fo31_2 ts22
theorem fl31_3:flP Tryz.prog 31 3=some (3,1):= @flW _ _ _ _ _ _ fo31_3 ts28
theorem fl31_4:flP Tryz.prog 31 4=some (4,1):= @flW _ _ _ _ _ _ fo31_4 ts29
theorem tz38:tzero Tryz.prog 38=some [.v (.int .i64 0),.v (.slice none 0 0),.v (.bool false),.v (.bool false),.v (.bool false),.v (.bool false),.v (.bool false),.v (.slice none 0 0),.v (.bool false),.v (.int .u32 0),.v (.int .u32 0),.v (.int .u32 0),.v (.bool false),.v (.bool false),.v (.bool false),.v (.int .i64 0),.v (.int .i64 0),.v (.bool false),.v (.bool false),.v (.int .i64 0),.v (.slice none 0 0),.v (.slice none 0 0),.v (.slice none 0 0),.v (.slice none 0 0),.v (.int .i64 0),.v (.bool false),.v (.bool false),.v (.int .i64 0),.v (.int .i64 0),.v (.int .i64 0),.v (.bool false),.v (.int .i64 0),.v (.slice none 0 0),.v (.slice none 0 0),.v (.slice none 0 0),.v (.slice none 0 0)]:=by kernel_rfl
def bl38:= @blW _ _ _ tz38 tv38
theorem fl38_1:flP Tryz.prog 38 1=some (1,1):= @flW _ _ _ _ _ _ fo38_1 ts27
theorem fl38_3:flP Tryz.prog 38 3=some (3,1):= @flW _ _ _ _ _ _ fo38_3 ts4
theorem fl38_4:flP Tryz.prog 38 4=some (4,1):= @flW _ _ _ _ _ _ fo38_4 ts4
theorem tz53:tzero Tryz.prog 53=some [.v (.int .i64 0),.v (.int .i64 0),.v (.slice none 0 0),.v (.bool false),.v (.bool false),.v (.bool false),.v (.bool false),.v (.bool false),.v (.slice none 0 0),.v (.bool false),.v (.int .u32 0),.v (.int .u32 0),.v (.int .u32 0),.v (.bool false),.v (.bool false),.v (.bool false),.v (.int .i64 0),.v (.int .i64 0),.v (.bool false),.v (.bool false),.v (.int .i64 0),.v (.slice none 0 0),.v (.slice none 0 0),.v (.slice none 0 0),.v (.slice none 0 0),.v (.int .i64 0),.v (.bool false),.v (.bool false),.v (.int .i64 0),.v (.int .i64 0),.v (.int .i64 0),.v (.bool false),.v (.int .i64 0),.v (.slice none 0 0),.v (.slice none 0 0),.v (.slice none 0 0),.v (.slice none 0 0),.v (.slice none 0 0),.v (.int .i64 0),.v (.slice none 0 0),.v (.slice none 0 0),.v (.slice none 0 0),.v (.slice none 0 0),.v (.int .i64 0),.v (.slice none 0 0),.v (.slice none 0 0),.v (.slice none 0 0),.v (.slice none 0 0)]:=by kernel_rfl
def bl53:= @blW _ _ _ tz53 tv53
theorem fl53_0:flP Tryz.prog 53 0=some (0,1):= @flW _ _ _ _ _ _ fo53_0 ts3
theorem fl53_1:flP Tryz.prog 53 1=some (1,36):= @flW _ _ _ _ _ _ fo53_1 ts38
theorem fl53_2:flP Tryz.prog 53 2=some (37,1):= @flW _ _ _ _ _ _ fo53_2 ts39
theorem fl53_3:flP Tryz.prog 53 3=some (38,5):= @flW _ _ _ _ _ _ fo53_3 ts31
theorem fl53_4:flP Tryz.prog 53 4=some (43,5):= @flW _ _ _ _ _ _ fo53_4 ts31
def bl60:= @blW _ _ _ tz60 tv60
theorem fl60_0:flP Tryz.prog 60 0=some (0,1):= @flW _ _ _ _ _ _ fo60_0 ts3
theorem fl60_1:flP Tryz.prog 60 1=some (1,1):= @flW _ _ _ _ _ _ fo60_1 ts27
theorem fl60_2:flP Tryz.prog 60 2=some (2,1):= @flW _ _ _ _ _ _ fo60_2 ts4
theorem fl60_3:flP Tryz.prog 60 3=some (3,5):= @flW _ _ _ _ _ _ fo60_3 ts31
theorem tz66:tzero Tryz.prog 66=some [.v (.int .i64 0),.v (.int .i64 0),.v (.slice none 0 0),.v (.bool false),.v (.bool false),.v (.bool false),.v (.bool false),.v (.bool false),.v (.slice none 0 0),.v (.bool false),.v (.int .u32 0),.v (.int .u32 0),.v (.int .u32 0),.v (.bool false),.v (.bool false),.v (.bool false),.v (.int .i64 0),.v (.int .i64 0),.v (.bool false),.v (.bool false),.v (.int .i64 0),.v (.slice none 0 0),.v (.slice none 0 0),.v (.slice none 0 0),.v (.slice none 0 0),.v (.int .i64 0),.v (.bool false),.v (.bool false),.v (.int .i64 0),.v (.int .i64 0),.v (.int .i64 0),.v (.bool false),.v (.int .i64 0),.v (.slice none 0 0),.v (.slice none 0 0),.v (.slice none 0 0),.v (.slice none 0 0),.v (.slice none 0 0),.v (.int .i64 0)]:=by kernel_rfl
def bl66:= @blW _ _ _ tz66 tv66
theorem fl66_0:flP Tryz.prog 66 0=some (0,1):= @flW _ _ _ _ _ _ fo66_0 ts3
theorem fl66_1:flP Tryz.prog 66 1=some (1,36):= @flW _ _ _ _ _ _ fo66_1 ts38
theorem fl66_2:flP Tryz.prog 66 2=some (37,1):= @flW _ _ _ _ _ _ fo66_2 ts54
theorem fl66_3:flP Tryz.prog 66 3=some (38,1):= @flW _ _ _ _ _ _ fo66_3 ts3
theorem tz25:tzero Tryz.prog 25=some [.v .nilFunc]:=by kernel_rfl
def al25:= @alW _ _ _ tz25
def aq25:= @aqW _ _ _ tz25
def al27:= @alW _ _ _ tz27
def aq27:= @aqW _ _ _ tz27
def al31:= @alW _ _ _ tz31
def aq31:= @aqW _ _ _ tz31
def al38:= @alW _ _ _ tz38
def aq38:= @aqW _ _ _ tz38
def al60:= @alW _ _ _ tz60
def aq60:= @aqW _ _ _ tz60
def al66:= @alW _ _ _ tz66
def aq66:= @aqW _ _ _ tz66
theorem tz85:tzero Tryz.prog 85=some [.v .nilFunc]:=by kernel_rfl
def al85:= @alW _ _ _ tz85
def aq85:= @aqW _ _ _ tz85
theorem ab4: ∀ {op:BinOp} {a b:Bool},abin Tryz.prog op 4 (.v (.bool a)) (.v (.bool b))=abinB op a b:=abin_bool tv4
theorem cv24_3: ∀ {k':IntKind} {z:Int},cvX Tryz.prog 24 3 (.v (.int k' z))=some (.v (.int .i64 (wk .i64 z))):=cvX_at tv24 tv3
theorem sc22:sliceCells Tryz.prog 4 22=[2]:=by kernel_rfl
theorem ty22:typed Tryz.prog 22 (.v (.slice none 0 0))= .fresh 1 0 []:=ty_nil sc22
theorem sc27:sliceCells Tryz.prog 4 27=[2]:=by kernel_rfl
theorem ty27:typed Tryz.prog 27 (.v (.slice none 0 0))= .fresh 1 0 []:=ty_nil sc27
theorem sc28:sliceCells Tryz.prog 4 28=[2]:=by kernel_rfl
theorem ty28:typed Tryz.prog 28 (.v (.slice none 0 0))= .fresh 1 0 []:=ty_nil sc28
theorem sc29:sliceCells Tryz.prog 4 29=[2]:=by kernel_rfl
theorem ty29:typed Tryz.prog 29 (.v (.slice none 0 0))= .fresh 1 0 []:=ty_nil sc29
theorem sc31:sliceCells Tryz.prog 4 31=[0,2,2,2,2]:=by kernel_rfl
theorem ty31: ∀ {xs:List AV},typed Tryz.prog 31 (.agg xs)= .agg (nilNew xs [0,2,2,2,2]):=ty_agg sc31
theorem sc54:sliceCells Tryz.prog 4 54=[9]:=by kernel_rfl
theorem ty54:typed Tryz.prog 54 (.v (.slice none 0 0))= .fresh 8 0 []:=ty_nil sc54
theorem sc60:sliceCells Tryz.prog 4 60=[0,2,0,0,2,2,2,2]:=by kernel_rfl
theorem ty60: ∀ {xs:List AV},typed Tryz.prog 60 (.agg xs)= .agg (nilNew xs [0,2,0,0,2,2,2,2]):=ty_agg sc60
theorem sc68:sliceCells Tryz.prog 4 68=[2]:=by kernel_rfl
theorem ty68:typed Tryz.prog 68 (.v (.slice none 0 0))= .fresh 1 0 []:=ty_nil sc68
theorem c_T_Tensor_at{x:T_Tensor}:c_T_Tensor x=[.v (.int .i64 x.fType),.arr x.fDims.length (lm (ik .i64) x.fDims),.arr x.fF.length (lm (ik .u32) x.fF),.arr x.fI.length (lm (ik .i64) x.fI),.arr x.fB.length (lm (bk) x.fB)]:=rfl
theorem c_T_Setting_at{x:T_Setting}:c_T_Setting x=[.v (.int .i64 x.fAxis),.arr x.fAxes.length (lm (ik .i64) x.fAxes),.v (.bool x.fHasAxes),.v (.bool x.fKeep),.v (.bool x.fNoop),.v (.bool x.fLast),.v (.bool x.fZero),.arr x.fPerm.length (lm (ik .i64) x.fPerm),.v (.bool x.fHasPerm),.v (.int .u32 x.fAlpha),.v (.int .u32 x.fBeta),.v (.int .u32 x.fEpsilon),.v (.bool x.fLow),.v (.bool x.fHigh),.v (.bool x.fFmod),.v (.int .i64 x.fTo),.v (.int .i64 x.fMode),.v (.bool x.fTransA),.v (.bool x.fTransB),.v (.int .i64 x.fGroup),.arr x.fKernel.length (lm (ik .i64) x.fKernel),.arr x.fStrides.length (lm (ik .i64) x.fStrides),.arr x.fPads.length (lm (ik .i64) x.fPads),.arr x.fDilations.length (lm (ik .i64) x.fDilations),.v (.int .i64 x.fAuto),.v (.bool x.fCeil),.v (.bool x.fCount),.v (.int .i64 x.fBlock),.v (.int .i64 x.fStart),.v (.int .i64 x.fEnd),.v (.bool x.fHasEnd),.v (.int .i64 x.fValue.fType),.arr x.fValue.fDims.length (lm (ik .i64) x.fValue.fDims),.arr x.fValue.fF.length (lm (ik .u32) x.fValue.fF),.arr x.fValue.fI.length (lm (ik .i64) x.fValue.fI),.arr x.fValue.fB.length (lm (bk) x.fValue.fB)]:=rfl
theorem c_T_Val_at{x:T_Val}:c_T_Val x=[.v (.int .i64 x.fType),.arr x.fDims.length (lm (ik .i64) x.fDims),.v (.bool x.fConst),.v (.int .i64 x.fT.fType),.arr x.fT.fDims.length (lm (ik .i64) x.fT.fDims),.arr x.fT.fF.length (lm (ik .u32) x.fT.fF),.arr x.fT.fI.length (lm (ik .i64) x.fT.fI),.arr x.fT.fB.length (lm (bk) x.fT.fB)]:=rfl
theorem c_T_infer_ask_at{x:T_infer_ask}:c_T_infer_ask x=[.v (.int .i64 x.fop),.v (.int .i64 x.fs.fAxis),.arr x.fs.fAxes.length (lm (ik .i64) x.fs.fAxes),.v (.bool x.fs.fHasAxes),.v (.bool x.fs.fKeep),.v (.bool x.fs.fNoop),.v (.bool x.fs.fLast),.v (.bool x.fs.fZero),.arr x.fs.fPerm.length (lm (ik .i64) x.fs.fPerm),.v (.bool x.fs.fHasPerm),.v (.int .u32 x.fs.fAlpha),.v (.int .u32 x.fs.fBeta),.v (.int .u32 x.fs.fEpsilon),.v (.bool x.fs.fLow),.v (.bool x.fs.fHigh),.v (.bool x.fs.fFmod),.v (.int .i64 x.fs.fTo),.v (.int .i64 x.fs.fMode),.v (.bool x.fs.fTransA),.v (.bool x.fs.fTransB),.v (.int .i64 x.fs.fGroup),.arr x.fs.fKernel.length (lm (ik .i64) x.fs.fKernel),.arr x.fs.fStrides.length (lm (ik .i64) x.fs.fStrides),.arr x.fs.fPads.length (lm (ik .i64) x.fs.fPads),.arr x.fs.fDilations.length (lm (ik .i64) x.fs.fDilations),.v (.int .i64 x.fs.fAuto),.v (.bool x.fs.fCeil),.v (.bool x.fs.fCount),.v (.int .i64 x.fs.fBlock),.v (.int .i64 x.fs.fStart),.v (.int .i64 x.fs.fEnd),.v (.bool x.fs.fHasEnd),.v (.int .i64 x.fs.fValue.fType),.arr x.fs.fValue.fDims.length (lm (ik .i64) x.fs.fValue.fDims),.arr x.fs.fValue.fF.length (lm (ik .u32) x.fs.fValue.fF),.arr x.fs.fValue.fI.length (lm (ik .i64) x.fs.fValue.fI),.arr x.fs.fValue.fB.length (lm (bk) x.fs.fValue.fB),.arr x.fin.length (fm c_T_Val x.fin),.v (.int .i64 x.fouts)]:=rfl
theorem c_T_reduce_work_at{x:T_reduce_work}:c_T_reduce_work x=[.v (.int .i64 x.fop),.v (.int .i64 x.fs.fAxis),.arr x.fs.fAxes.length (lm (ik .i64) x.fs.fAxes),.v (.bool x.fs.fHasAxes),.v (.bool x.fs.fKeep),.v (.bool x.fs.fNoop),.v (.bool x.fs.fLast),.v (.bool x.fs.fZero),.arr x.fs.fPerm.length (lm (ik .i64) x.fs.fPerm),.v (.bool x.fs.fHasPerm),.v (.int .u32 x.fs.fAlpha),.v (.int .u32 x.fs.fBeta),.v (.int .u32 x.fs.fEpsilon),.v (.bool x.fs.fLow),.v (.bool x.fs.fHigh),.v (.bool x.fs.fFmod),.v (.int .i64 x.fs.fTo),.v (.int .i64 x.fs.fMode),.v (.bool x.fs.fTransA),.v (.bool x.fs.fTransB),.v (.int .i64 x.fs.fGroup),.arr x.fs.fKernel.length (lm (ik .i64) x.fs.fKernel),.arr x.fs.fStrides.length (lm (ik .i64) x.fs.fStrides),.arr x.fs.fPads.length (lm (ik .i64) x.fs.fPads),.arr x.fs.fDilations.length (lm (ik .i64) x.fs.fDilations),.v (.int .i64 x.fs.fAuto),.v (.bool x.fs.fCeil),.v (.bool x.fs.fCount),.v (.int .i64 x.fs.fBlock),.v (.int .i64 x.fs.fStart),.v (.int .i64 x.fs.fEnd),.v (.bool x.fs.fHasEnd),.v (.int .i64 x.fs.fValue.fType),.arr x.fs.fValue.fDims.length (lm (ik .i64) x.fs.fValue.fDims),.arr x.fs.fValue.fF.length (lm (ik .u32) x.fs.fValue.fF),.arr x.fs.fValue.fI.length (lm (ik .i64) x.fs.fValue.fI),.arr x.fs.fValue.fB.length (lm (bk) x.fs.fValue.fB),.arr x.fin.length (fm c_T_Tensor x.fin),.v (.int .i64 x.fx.fType),.arr x.fx.fDims.length (lm (ik .i64) x.fx.fDims),.arr x.fx.fF.length (lm (ik .u32) x.fx.fF),.arr x.fx.fI.length (lm (ik .i64) x.fx.fI),.arr x.fx.fB.length (lm (bk) x.fx.fB),.v (.int .i64 x.fout.fType),.arr x.fout.fDims.length (lm (ik .i64) x.fout.fDims),.arr x.fout.fF.length (lm (ik .u32) x.fout.fF),.arr x.fout.fI.length (lm (ik .i64) x.fout.fI),.arr x.fout.fB.length (lm (bk) x.fout.fB)]:=rfl
theorem c_T_Tensor_inj:Inj c_T_Tensor:=by
  intro a b h
  obtain⟨a0,a1,a2,a3,a4⟩:=a
  obtain⟨b0,b1,b2,b3,b4⟩:=b
  simp only[c_T_Tensor_at,INJ]at h
  simp_all
theorem c_T_Setting_inj:Inj c_T_Setting:=by
  intro a b h
  obtain⟨a0,a1,a2,a3,a4,a5,a6,a7,a8,a9,a10,a11,a12,a13,a14,a15,a16,a17,a18,a19,a20,a21,a22,a23,a24,a25,a26,a27,a28,a29,a30,⟨a_310,a_311,a_312,a_313,a_314⟩⟩:=a
  obtain⟨b0,b1,b2,b3,b4,b5,b6,b7,b8,b9,b10,b11,b12,b13,b14,b15,b16,b17,b18,b19,b20,b21,b22,b23,b24,b25,b26,b27,b28,b29,b30,⟨b_310,b_311,b_312,b_313,b_314⟩⟩:=b
  simp only[c_T_Setting_at,INJ,@c_inj_iff _ _ c_T_Tensor_inj,@lm_inj_iff _ _ (inj_avf (inj_fm c_T_Tensor_len (by decide) c_T_Tensor_inj)),@fm_inj_iff _ _ (inj_fm c_T_Tensor_len (by decide) c_T_Tensor_inj)]at h
  simp_all
theorem c_T_Val_inj:Inj c_T_Val:=by
  intro a b h
  obtain⟨a0,a1,a2,⟨a_30,a_31,a_32,a_33,a_34⟩⟩:=a
  obtain⟨b0,b1,b2,⟨b_30,b_31,b_32,b_33,b_34⟩⟩:=b
  simp only[c_T_Val_at,INJ,@c_inj_iff _ _ c_T_Tensor_inj,@lm_inj_iff _ _ (inj_avf (inj_fm c_T_Tensor_len (by decide) c_T_Tensor_inj)),@fm_inj_iff _ _ (inj_fm c_T_Tensor_len (by decide) c_T_Tensor_inj),@c_inj_iff _ _ c_T_Setting_inj,@lm_inj_iff _ _ (inj_avf (inj_fm c_T_Setting_len (by decide) c_T_Setting_inj)),@fm_inj_iff _ _ (inj_fm c_T_Setting_len (by decide) c_T_Setting_inj)]at h
  simp_all
theorem c_T_infer_ask_inj:Inj c_T_infer_ask:=by
  intro a b h
  obtain⟨a0,⟨a_10,a_11,a_12,a_13,a_14,a_15,a_16,a_17,a_18,a_19,a_110,a_111,a_112,a_113,a_114,a_115,a_116,a_117,a_118,a_119,a_120,a_121,a_122,a_123,a_124,a_125,a_126,a_127,a_128,a_129,a_130,⟨a_1_310,a_1_311,a_1_312,a_1_313,a_1_314⟩⟩,a2,a3⟩:=a
  obtain⟨b0,⟨b_10,b_11,b_12,b_13,b_14,b_15,b_16,b_17,b_18,b_19,b_110,b_111,b_112,b_113,b_114,b_115,b_116,b_117,b_118,b_119,b_120,b_121,b_122,b_123,b_124,b_125,b_126,b_127,b_128,b_129,b_130,⟨b_1_310,b_1_311,b_1_312,b_1_313,b_1_314⟩⟩,b2,b3⟩:=b
  simp only[c_T_infer_ask_at,INJ,@c_inj_iff _ _ c_T_Tensor_inj,@lm_inj_iff _ _ (inj_avf (inj_fm c_T_Tensor_len (by decide) c_T_Tensor_inj)),@fm_inj_iff _ _ (inj_fm c_T_Tensor_len (by decide) c_T_Tensor_inj),@c_inj_iff _ _ c_T_Setting_inj,@lm_inj_iff _ _ (inj_avf (inj_fm c_T_Setting_len (by decide) c_T_Setting_inj)),@fm_inj_iff _ _ (inj_fm c_T_Setting_len (by decide) c_T_Setting_inj),@c_inj_iff _ _ c_T_Val_inj,@lm_inj_iff _ _ (inj_avf (inj_fm c_T_Val_len (by decide) c_T_Val_inj)),@fm_inj_iff _ _ (inj_fm c_T_Val_len (by decide) c_T_Val_inj)]at h
  simp_all
theorem c_T_reduce_work_inj:Inj c_T_reduce_work:=by
  intro a b h
  obtain⟨a0,⟨a_10,a_11,a_12,a_13,a_14,a_15,a_16,a_17,a_18,a_19,a_110,a_111,a_112,a_113,a_114,a_115,a_116,a_117,a_118,a_119,a_120,a_121,a_122,a_123,a_124,a_125,a_126,a_127,a_128,a_129,a_130,⟨a_1_310,a_1_311,a_1_312,a_1_313,a_1_314⟩⟩,a2,⟨a_30,a_31,a_32,a_33,a_34⟩,⟨a_40,a_41,a_42,a_43,a_44⟩⟩:=a
  obtain⟨b0,⟨b_10,b_11,b_12,b_13,b_14,b_15,b_16,b_17,b_18,b_19,b_110,b_111,b_112,b_113,b_114,b_115,b_116,b_117,b_118,b_119,b_120,b_121,b_122,b_123,b_124,b_125,b_126,b_127,b_128,b_129,b_130,⟨b_1_310,b_1_311,b_1_312,b_1_313,b_1_314⟩⟩,b2,⟨b_30,b_31,b_32,b_33,b_34⟩,⟨b_40,b_41,b_42,b_43,b_44⟩⟩:=b
  simp only[c_T_reduce_work_at,INJ,@c_inj_iff _ _ c_T_Tensor_inj,@lm_inj_iff _ _ (inj_avf (inj_fm c_T_Tensor_len (by decide) c_T_Tensor_inj)),@fm_inj_iff _ _ (inj_fm c_T_Tensor_len (by decide) c_T_Tensor_inj),@c_inj_iff _ _ c_T_Setting_inj,@lm_inj_iff _ _ (inj_avf (inj_fm c_T_Setting_len (by decide) c_T_Setting_inj)),@fm_inj_iff _ _ (inj_fm c_T_Setting_len (by decide) c_T_Setting_inj),@c_inj_iff _ _ c_T_Val_inj,@lm_inj_iff _ _ (inj_avf (inj_fm c_T_Val_len (by decide) c_T_Val_inj)),@fm_inj_iff _ _ (inj_fm c_T_Val_len (by decide) c_T_Val_inj),@c_inj_iff _ _ c_T_infer_ask_inj,@lm_inj_iff _ _ (inj_avf (inj_fm c_T_infer_ask_len (by decide) c_T_infer_ask_inj)),@fm_inj_iff _ _ (inj_fm c_T_infer_ask_len (by decide) c_T_infer_ask_inj)]at h
  simp_all
def TT0:=And.intro @ts2<|And.intro @pt2<|And.intro @st2<|And.intro @ts3<|And.intro @pt3<|And.intro @st3<|And.intro @ts4<|And.intro @pt4<|And.intro @sb4<|And.intro @ts5<|And.intro @pt5<|And.intro @st5<|And.intro @ts9<|And.intro @pt9<|And.intro @le9<|And.intro @ix9<|And.intro @ts22<|And.intro @pt22<|And.intro @ia22<|And.intro @io22<|And.intro @le22<|And.intro @mk22<|And.intro @ap22<|And.intro @bs22<|And.intro @ao22<|And.intro @as22<|And.intro @sa22<|And.intro @so22<|And.intro @ts24<|And.intro @pt24<|And.intro @st24<|And.intro @ts25<|And.intro @pt25<|And.intro @ts27<|And.intro @pt27<|And.intro @ia27<|And.intro @io27<|And.intro @le27<|And.intro @mk27<| @ap27
def TT1:=And.intro @bs27<|And.intro @sa27<|And.intro @so27<|And.intro @ts28<|And.intro @pt28<|And.intro @ia28<|And.intro @io28<|And.intro @le28<|And.intro @mk28<|And.intro @ap28<|And.intro @bs28<|And.intro @sa28<|And.intro @so28<|And.intro @ts29<|And.intro @pt29<|And.intro @ia29<|And.intro @io29<|And.intro @le29<|And.intro @mk29<|And.intro @ap29<|And.intro @bs29<|And.intro @sa29<|And.intro @so29<|And.intro @ts31<|And.intro @pt31<|And.intro @sg31<|And.intro @ts32<|And.intro @pt32<|And.intro @st32<|And.intro @ts38<|And.intro @pt38<|And.intro @sg38<|And.intro @ts39<|And.intro @pt39<|And.intro @ia39<|And.intro @io39<|And.intro @le39<|And.intro @ap39<|And.intro @af39<| @bs39
def TT2:=And.intro @sa39<|And.intro @so39<|And.intro @ts51<|And.intro @pt51<|And.intro @ts53<|And.intro @pt53<|And.intro @ts54<|And.intro @pt54<|And.intro @ia54<|And.intro @io54<|And.intro @le54<|And.intro @ap54<|And.intro @af54<|And.intro @bs54<|And.intro @sa54<|And.intro @so54<|And.intro @ts60<|And.intro @pt60<|And.intro @sg60<|And.intro @ts66<|And.intro @pt66<|And.intro @sg66<|And.intro @ts68<|And.intro @pt68<|And.intro @ia68<|And.intro @io68<|And.intro @le68<|And.intro @bs68<|And.intro @sa68<|And.intro @so68<|And.intro @ts85<|And.intro @pt85<|And.intro @fo31_0<|And.intro @fp31_0<|And.intro @fr31_0<|And.intro @fo31_1<|And.intro @fp31_1<|And.intro @fr31_1<|And.intro @fo31_2<| @fp31_2
def TT3:=And.intro @fr31_2<|And.intro @fo31_3<|And.intro @fp31_3<|And.intro @fr31_3<|And.intro @fd31_3<|And.intro @fo31_4<|And.intro @fp31_4<|And.intro @fr31_4<|And.intro @fo38_1<|And.intro @fp38_1<|And.intro @fr38_1<|And.intro @fo38_3<|And.intro @fp38_3<|And.intro @fr38_3<|And.intro @fo38_4<|And.intro @fp38_4<|And.intro @fr38_4<|And.intro @fo53_0<|And.intro @fp53_0<|And.intro @fr53_0<|And.intro @fo53_1<|And.intro @fp53_1<|And.intro @fr53_1<|And.intro @fo53_2<|And.intro @fp53_2<|And.intro @fr53_2<|And.intro @fo53_3<|And.intro @fp53_3<|And.intro @fr53_3<|And.intro @fo53_4<|And.intro @fp53_4<|And.intro @fr53_4<|And.intro @fo60_0<|And.intro @fp60_0<|And.intro @fr60_0<|And.intro @fd60_0<|And.intro @fo60_1<|And.intro @fp60_1<|And.intro @fr60_1<| @fd60_1
def TT4:=And.intro @fo60_2<|And.intro @fp60_2<|And.intro @fr60_2<|And.intro @fo60_3<|And.intro @fp60_3<|And.intro @fr60_3<|And.intro @fd60_3<|And.intro @fo66_0<|And.intro @fp66_0<|And.intro @fr66_0<|And.intro @fo66_1<|And.intro @fp66_1<|And.intro @fr66_1<|And.intro @fo66_2<|And.intro @fp66_2<|And.intro @fr66_2<|And.intro @fo66_3<|And.intro @fp66_3<|And.intro @fr66_3<|And.intro @bl31<|And.intro @fl31_0<|And.intro @fl31_1<|And.intro @fl31_2<|And.intro @fl31_3<|And.intro @fl31_4<|And.intro @bl38<|And.intro @fl38_1<|And.intro @fl38_3<|And.intro @fl38_4<|And.intro @bl53<|And.intro @fl53_0<|And.intro @fl53_1<|And.intro @fl53_2<|And.intro @fl53_3<|And.intro @fl53_4<|And.intro @bl60<|And.intro @fl60_0<|And.intro @fl60_1<|And.intro @fl60_2<| @fl60_3
def TT5:=And.intro @bl66<|And.intro @fl66_0<|And.intro @fl66_1<|And.intro @fl66_2<|And.intro @fl66_3<|And.intro @al25<|And.intro @aq25<|And.intro @al27<|And.intro @aq27<|And.intro @al31<|And.intro @aq31<|And.intro @al38<|And.intro @aq38<|And.intro @al60<|And.intro @aq60<|And.intro @al66<|And.intro @aq66<|And.intro @al85<|And.intro @aq85<|And.intro @ab4<|And.intro @cv24_3<|And.intro @ty22<|And.intro @ty27<|And.intro @ty28<|And.intro @ty29<|And.intro @ty31<|And.intro @ty54<|And.intro @ty60<|And.intro @ty68<|And.intro @c_T_Tensor_at<|And.intro (λl=> @one_fm _ c_T_Tensor l c_T_Tensor_one)<|And.intro @c_T_Setting_at<|And.intro (λl=> @one_fm _ c_T_Setting l c_T_Setting_one)<|And.intro @c_T_Val_at<|And.intro (λl=> @one_fm _ c_T_Val l c_T_Val_one)<|And.intro @c_T_infer_ask_at<|And.intro (λl=> @one_fm _ c_T_infer_ask l c_T_infer_ask_one)<|And.intro @c_T_reduce_work_at<|(λl=> @one_fm _ c_T_reduce_work l c_T_reduce_work_one)
def TT:=And.intro @TT0<|And.intro @TT1<|And.intro @TT2<|And.intro @TT3<|And.intro @TT4<| @TT5
def OF:=And.intro (λl=> @one_fm _ c_T_Tensor l c_T_Tensor_one)<|And.intro (λl=> @one_fm _ c_T_Setting l c_T_Setting_one)<|And.intro (λl=> @one_fm _ c_T_Val l c_T_Val_one)<|And.intro (λl=> @one_fm _ c_T_infer_ask l c_T_infer_ask_one)<|(λl=> @one_fm _ c_T_reduce_work l c_T_reduce_work_one)
def NT:=And.intro @c_T_Tensor_at<|And.intro @c_T_Setting_at<|And.intro @c_T_Val_at<|And.intro @c_T_infer_ask_at<| @c_T_reduce_work_at
def OZ:=And.intro LN<|And.intro RO OF
theorem Zd{p:Prop}(h:p:=by first|assumption|decide|with_unfolding_all rfl|omega|simp only[OZ] <;> omega|fail):p:=h
theorem Ze{p:Prop}(h:p:=by first|rfl|(simp only[LN,NN,NT])):p:=h
theorem Zh{p:Prop}(h:p:=by first|(simp (disch:=first|exact Zd|fail) only[RR,simprocAttr,LN,NN,NT];done)|(simp (disch:=first|exact Zd|fail) only[RR,simprocAttr,LN,fm_app,NN,NT];done)|rfl):p:=h
def FN:=And.intro FF<|And.intro LN<|And.intro NN NT
def ZZ:=And.intro tv27<|And.intro tz3<|And.intro RR<|And.intro RM<|And.intro LN<|And.intro TT RH
theorem Jc{β:Type}{m m':Option AV}{s:Option β}{enc:β->AV}(j:J m' s enc)(h:m=m':=by conv=>lhs;simp (disch:=first|exact Zd|fail) only[ZZ,simprocAttr, *]):J m s enc:=J.eq h j
theorem Js{p:Prop}(h:p:=by simp (maxSteps:=20000000) (disch:=first|exact Zd|fail) only[ZZ,simprocAttr,FN, *]):p:=h
def IJ:=And.intro (@c_inj_iff _ _ c_T_Tensor_inj)<|And.intro (@lm_inj_iff _ _ (inj_avf (inj_fm c_T_Tensor_len (by decide) c_T_Tensor_inj)))<|And.intro (@fm_inj_iff _ _ (inj_fm c_T_Tensor_len (by decide) c_T_Tensor_inj))<|And.intro (@c_inj_iff _ _ c_T_Setting_inj)<|And.intro (@lm_inj_iff _ _ (inj_avf (inj_fm c_T_Setting_len (by decide) c_T_Setting_inj)))<|And.intro (@fm_inj_iff _ _ (inj_fm c_T_Setting_len (by decide) c_T_Setting_inj))<|And.intro (@c_inj_iff _ _ c_T_Val_inj)<|And.intro (@lm_inj_iff _ _ (inj_avf (inj_fm c_T_Val_len (by decide) c_T_Val_inj)))<|And.intro (@fm_inj_iff _ _ (inj_fm c_T_Val_len (by decide) c_T_Val_inj))<|And.intro (@c_inj_iff _ _ c_T_infer_ask_inj)<|And.intro (@lm_inj_iff _ _ (inj_avf (inj_fm c_T_infer_ask_len (by decide) c_T_infer_ask_inj)))<|And.intro (@fm_inj_iff _ _ (inj_fm c_T_infer_ask_len (by decide) c_T_infer_ask_inj))<|And.intro (@c_inj_iff _ _ c_T_reduce_work_inj)<|And.intro (@lm_inj_iff _ _ (inj_avf (inj_fm c_T_reduce_work_len (by decide) c_T_reduce_work_inj)))<|(@fm_inj_iff _ _ (inj_fm c_T_reduce_work_len (by decide) c_T_reduce_work_inj))
theorem Zi{p:Prop}(h:p:=by intro a b h;first|(exact rfl)|(simp only[INJ,IJ]at h;first|exact h|(simp_all [Prod.ext_iff]))):p:=h
def ZG:=And.intro ZZ<|And.intro RU<|And.intro @go_seq<|And.intro @ret_seq<|And.intro @Nat.sub_zero @Nat.zero_le
def ZN:=And.intro ZZ RU
theorem Jg{β:Type}{m m':Option AV}{s:Option β}{enc:β->AV}(j:J m' s enc)(h:m=m':=by conv=>lhs;try simp (maxSteps:=20000000) (disch:=first|exact Zd|fail) only[ZG,simprocAttr, *]):J m s enc:=J.eq h j
theorem Jn{β:Type}{m m':Option AV}{s:Option β}{enc:β->AV}{i:Nat}{ρ τ:Type}{r:ρ}{fj:τ->Option β}(j:J m' (jn i r fj s) enc)(h:m=m':=by conv=>lhs;simp (maxSteps:=20000000) (disch:=first|exact Zd|fail) only[ZN,simprocAttr, *]):J m (jn i r fj s) enc:=J.eq h j
theorem Jk{β:Type}{m m':Option AV}{s:Option β}{enc:β->AV}{i:Nat}{ρ τ:Type}{r:ρ}{fj:τ->Option β}(j:J m' (jc i r fj s) enc)(h:m=m':=by conv=>lhs;simp (maxSteps:=20000000) (disch:=first|exact Zd|fail) only[ZN,simprocAttr, *]):J m (jc i r fj s) enc:=J.eq h j
theorem Jl{β:Type}{m m':Option AV}{enc:β->AV}{σ:Type}{body:(σ->Option β)->σ->Option β}{k:Nat}{s0:σ}(j:J m' (cloop body k s0) enc)(h:m=m':=by conv=>lhs;simp (maxSteps:=20000000) (disch:=first|exact Zd|fail) only[ZN,simprocAttr, *]):J m (cloop body k s0) enc:=J.eq h j
theorem Jr{β:Type}{m m':Option AV}{enc:β->AV}{α σ:Type}{pb:α->(σ->Option β)->σ->Option β}{pf:σ->Option β}{ys:List α}{s0:σ}(j:J m' (lloop pb pf ys s0) enc)(h:m=m':=by conv=>lhs;simp (maxSteps:=20000000) (disch:=first|exact Zd|fail) only[ZN,simprocAttr, *]):J m (lloop pb pf ys s0) enc:=J.eq h j
theorem Jw{p:Prop}(h:p:=by simp (maxSteps:=20000000) (disch:=first|exact Zd|fail) only[ZG,simprocAttr,FN, *]):p:=h
theorem Zx{p:Prop}(h:p:=by first|rfl|(simp only[LN,NN,NT];done)|(simp (disch:=first|exact Zd|fail) only[RR,simprocAttr,LN,NN,NT];done)|(simp (disch:=first|exact Zd|fail) only[RR,simprocAttr,LN,fm_app,NN,NT];done)|(simp (maxSteps:=20000000) (disch:=first|exact Zd|fail) only[ZZ,simprocAttr,kinV_at,kinVB_at,FN, *];done)|(simp (maxSteps:=20000000) (disch:=first|exact Zd|fail) only[ZZ,simprocAttr,kinV_at,kinVB_at,fm_app,FN, *];done)):p:=h
theorem J.gi{β:Type}{m:Option AV}{s:Option β}{enc:β->AV}{c:Prop}{dd:Decidable c}{s1:Option β}(j:J m (if c then s else s1) enc):J m (if c then s else s1) enc:=j
theorem J.gj{β:Type}{m:Option AV}{s:Option β}{enc:β->AV}{i:Nat}{ρ τ:Type}{r:ρ}{fj:τ->Option β}(j:J m (jn i r fj s) enc):J m (jn i r fj s) enc:=j
theorem J.gk{β:Type}{m:Option AV}{s:Option β}{enc:β->AV}{i:Nat}{ρ τ:Type}{r:ρ}{fj:τ->Option β}(j:J m (jc i r fj s) enc):J m (jc i r fj s) enc:=j
theorem J.gl{β:Type}{m:Option AV}{enc:β->AV}{σ:Type}{body:(σ->Option β)->σ->Option β}{k:Nat}{s0:σ}(j:J m (cloop body k s0) enc):J m (cloop body k s0) enc:=j
theorem Wk{p:Prop}(h:p:=by repeat' first|with_reducible exact J.none|with_reducible refine J.chk λc=> ?_ |with_reducible refine J.spl (λc=> ?_) (λc=> ?_)|(with_reducible refine J.atI λr a b c d=> ?_;try simp only[Int.toNat_natCast,LN,Nat.sub_zero,Nat.zero_mul,Nat.zero_add,Nat.add_zero,List.drop_zero,simprocAttr]at b c d)|(with_reducible refine J.atB λr a b c d=> ?_;try simp only[Int.toNat_natCast,LN,Nat.sub_zero,Nat.zero_mul,Nat.zero_add,Nat.add_zero,List.drop_zero,simprocAttr]at b c d)|(with_reducible refine J.atL λr a b c d=> ?_;try simp only[Int.toNat_natCast,LN,Nat.sub_zero,Nat.zero_mul,Nat.zero_add,Nat.add_zero,List.drop_zero,simprocAttr]at b c d)|(with_reducible refine J.atN c_T_Tensor_len λr b c d=> ?_;try simp only[Int.toNat_natCast,LN,Nat.sub_zero,Nat.zero_mul,Nat.zero_add,Nat.add_zero,List.drop_zero,simprocAttr]at b c d)|(with_reducible refine J.atS c_T_Tensor_len λr a b c d=> ?_;try simp only[Int.toNat_natCast,LN,Nat.sub_zero,Nat.zero_mul,Nat.zero_add,Nat.add_zero,List.drop_zero,simprocAttr]at b c d)|(with_reducible refine J.atN c_T_Setting_len λr b c d=> ?_;try simp only[Int.toNat_natCast,LN,Nat.sub_zero,Nat.zero_mul,Nat.zero_add,Nat.add_zero,List.drop_zero,simprocAttr]at b c d)|(with_reducible refine J.atS c_T_Setting_len λr a b c d=> ?_;try simp only[Int.toNat_natCast,LN,Nat.sub_zero,Nat.zero_mul,Nat.zero_add,Nat.add_zero,List.drop_zero,simprocAttr]at b c d)|(with_reducible refine J.atN c_T_Val_len λr b c d=> ?_;try simp only[Int.toNat_natCast,LN,Nat.sub_zero,Nat.zero_mul,Nat.zero_add,Nat.add_zero,List.drop_zero,simprocAttr]at b c d)|(with_reducible refine J.atS c_T_Val_len λr a b c d=> ?_;try simp only[Int.toNat_natCast,LN,Nat.sub_zero,Nat.zero_mul,Nat.zero_add,Nat.add_zero,List.drop_zero,simprocAttr]at b c d)|(with_reducible refine J.atN c_T_infer_ask_len λr b c d=> ?_;try simp only[Int.toNat_natCast,LN,Nat.sub_zero,Nat.zero_mul,Nat.zero_add,Nat.add_zero,List.drop_zero,simprocAttr]at b c d)|(with_reducible refine J.atS c_T_infer_ask_len λr a b c d=> ?_;try simp only[Int.toNat_natCast,LN,Nat.sub_zero,Nat.zero_mul,Nat.zero_add,Nat.add_zero,List.drop_zero,simprocAttr]at b c d)|(with_reducible refine J.atN c_T_reduce_work_len λr b c d=> ?_;try simp only[Int.toNat_natCast,LN,Nat.sub_zero,Nat.zero_mul,Nat.zero_add,Nat.add_zero,List.drop_zero,simprocAttr]at b c d)|(with_reducible refine J.atS c_T_reduce_work_len λr a b c d=> ?_;try simp only[Int.toNat_natCast,LN,Nat.sub_zero,Nat.zero_mul,Nat.zero_add,Nat.add_zero,List.drop_zero,simprocAttr]at b c d)|(with_reducible refine J.atM (c:=c_T_Tensor) λr a b c d=> ?_;try simp only[Int.toNat_natCast,LN,Nat.sub_zero,Nat.zero_mul,Nat.zero_add,Nat.add_zero,List.drop_zero,simprocAttr]at b c d)|(with_reducible refine J.atM (c:=c_T_Setting) λr a b c d=> ?_;try simp only[Int.toNat_natCast,LN,Nat.sub_zero,Nat.zero_mul,Nat.zero_add,Nat.add_zero,List.drop_zero,simprocAttr]at b c d)|(with_reducible refine J.atM (c:=c_T_Val) λr a b c d=> ?_;try simp only[Int.toNat_natCast,LN,Nat.sub_zero,Nat.zero_mul,Nat.zero_add,Nat.add_zero,List.drop_zero,simprocAttr]at b c d)|(with_reducible refine J.atM (c:=c_T_infer_ask) λr a b c d=> ?_;try simp only[Int.toNat_natCast,LN,Nat.sub_zero,Nat.zero_mul,Nat.zero_add,Nat.add_zero,List.drop_zero,simprocAttr]at b c d)|(with_reducible refine J.atM (c:=c_T_reduce_work) λr a b c d=> ?_;try simp only[Int.toNat_natCast,LN,Nat.sub_zero,Nat.zero_mul,Nat.zero_add,Nat.add_zero,List.drop_zero,simprocAttr]at b c d)|with_reducible refine J.sat λr a=> ?_ |((with_reducible refine J.bind λx h=> ?_);(first|with_reducible have e:=H1.ap h|with_reducible have e:=H2.ap h|with_reducible have e:=H3.ap h|with_reducible have e:=H4.ap h|with_reducible have e:=H5.ap h|with_reducible have e:=H6.ap h|with_reducible have e:=H7.ap h|with_reducible have e:=H8.ap h|with_reducible have e:=H9.ap h|with_reducible have e:=H10.ap h|with_reducible have e:=H11.ap h|with_reducible have e:=H12.ap h|with_reducible have e:=H13.ap h|with_reducible have e:=H14.ap h|with_reducible have e:=H15.ap h|with_reducible have e:=H16.ap h|with_reducible have e:=H17.ap h|with_reducible have e:=cy110_ap h);try simp only[NN,NT,LN,simprocAttr,DT]at e)|(with_reducible refine J.some ?_;exact Jw)|(with_reducible refine J.gi ?_;refine Jg ?_;first|with_reducible refine J.iteLt (λh k=> ?_) (λh k=> ?_)|with_reducible refine J.iteLe (λh k=> ?_) (λh k=> ?_)|with_reducible refine J.iteEq (λh k l=> ?_) (λh=> ?_)|with_reducible refine J.iteB (λh=> ?_) (λh=> ?_)|with_reducible refine J.iteD (λh=> ?_) (λh=> ?_))|(first|with_reducible refine J.hd (W1.eq_1 ..) ?_ |with_reducible refine J.hd (W2.eq_1 ..) ?_ |with_reducible refine J.hd (W3.eq_1 ..) ?_ |with_reducible refine J.hd (W4.eq_1 ..) ?_ |with_reducible refine J.hd (W5.eq_1 ..) ?_ |with_reducible refine J.hd (W6.eq_1 ..) ?_ |with_reducible refine J.hd (W7.eq_1 ..) ?_ |with_reducible refine J.hd (W8.eq_1 ..) ?_)|(with_reducible refine J.gj ?_;first|(first|(refine J.joinT j1 rfl (by intro;conv=>lhs;simp (disch:=first|exact Zd|fail) only[j1,ZN,simprocAttr]) (by intro;conv=>lhs;simp (disch:=first|exact Zd|fail) only[j1,ZN,simprocAttr]) (λt=>J.hd (k1.eq_1 ..) ?_) (λa1=> ?_);all_goals try simp only[Prod.forall,unit_all]at a1)|(refine J.joinT j2 rfl (by intro;conv=>lhs;simp (disch:=first|exact Zd|fail) only[j2,ZN,simprocAttr]) (by intro;conv=>lhs;simp (disch:=first|exact Zd|fail) only[j2,ZN,simprocAttr]) (λt=>J.hd (k2.eq_1 ..) ?_) (λa2=> ?_);all_goals try simp only[Prod.forall,unit_all]at a2)|(refine J.joinT j3 rfl (by intro;conv=>lhs;simp (disch:=first|exact Zd|fail) only[j3,ZN,simprocAttr]) (by intro;conv=>lhs;simp (disch:=first|exact Zd|fail) only[j3,ZN,simprocAttr]) (λt=>J.hd (k3.eq_1 ..) ?_) (λa3=> ?_);all_goals try simp only[Prod.forall,unit_all]at a3)|(refine J.joinT j4 rfl (by intro;conv=>lhs;simp (disch:=first|exact Zd|fail) only[j4,ZN,simprocAttr]) (by intro;conv=>lhs;simp (disch:=first|exact Zd|fail) only[j4,ZN,simprocAttr]) (λt=>J.hd (k4.eq_1 ..) ?_) (λa4=> ?_);all_goals try simp only[Prod.forall,unit_all]at a4)|(refine J.joinT j5 rfl (by intro;conv=>lhs;simp (disch:=first|exact Zd|fail) only[j5,ZN,simprocAttr]) (by intro;conv=>lhs;simp (disch:=first|exact Zd|fail) only[j5,ZN,simprocAttr]) (λt=>J.hd (k5.eq_1 ..) ?_) (λa5=> ?_);all_goals try simp only[Prod.forall,unit_all]at a5)|(refine J.joinT j6 rfl (by intro;conv=>lhs;simp (disch:=first|exact Zd|fail) only[j6,ZN,simprocAttr]) (by intro;conv=>lhs;simp (disch:=first|exact Zd|fail) only[j6,ZN,simprocAttr]) (λt=>J.hd (k6.eq_1 ..) ?_) (λa6=> ?_);all_goals try simp only[Prod.forall,unit_all]at a6)|(refine J.joinT j7 rfl (by intro;conv=>lhs;simp (disch:=first|exact Zd|fail) only[j7,ZN,simprocAttr]) (by intro;conv=>lhs;simp (disch:=first|exact Zd|fail) only[j7,ZN,simprocAttr]) (λt=>J.hd (k7.eq_1 ..) ?_) (λa7=> ?_);all_goals try simp only[Prod.forall,unit_all]at a7)|(refine J.joinT j8 rfl (by intro;conv=>lhs;simp (disch:=first|exact Zd|fail) only[j8,ZN,simprocAttr]) (by intro;conv=>lhs;simp (disch:=first|exact Zd|fail) only[j8,ZN,simprocAttr]) (λt=>J.hd (k8.eq_1 ..) ?_) (λa8=> ?_);all_goals try simp only[Prod.forall,unit_all]at a8)|(refine J.joinT j9 rfl (by intro;conv=>lhs;simp (disch:=first|exact Zd|fail) only[j9,ZN,simprocAttr]) (by intro;conv=>lhs;simp (disch:=first|exact Zd|fail) only[j9,ZN,simprocAttr]) (λt=>J.hd (k9.eq_1 ..) ?_) (λa9=> ?_);all_goals try simp only[Prod.forall,unit_all]at a9)|(refine J.joinT j10 rfl (by intro;conv=>lhs;simp (disch:=first|exact Zd|fail) only[j10,ZN,simprocAttr]) (by intro;conv=>lhs;simp (disch:=first|exact Zd|fail) only[j10,ZN,simprocAttr]) (λt=>J.hd (k10.eq_1 ..) ?_) (λa10=> ?_);all_goals try simp only[Prod.forall,unit_all]at a10)|(refine J.joinT j11 rfl (by intro;conv=>lhs;simp (disch:=first|exact Zd|fail) only[j11,ZN,simprocAttr]) (by intro;conv=>lhs;simp (disch:=first|exact Zd|fail) only[j11,ZN,simprocAttr]) (λt=>J.hd (k11.eq_1 ..) ?_) (λa11=> ?_);all_goals try simp only[Prod.forall,unit_all]at a11)|(refine J.joinT j12 rfl (by intro;conv=>lhs;simp (disch:=first|exact Zd|fail) only[j12,ZN,simprocAttr]) (by intro;conv=>lhs;simp (disch:=first|exact Zd|fail) only[j12,ZN,simprocAttr]) (λt=>J.hd (k12.eq_1 ..) ?_) (λa12=> ?_);all_goals try simp only[Prod.forall,unit_all]at a12)|refine J.sqj ?_ |refine J.rqj ?_)|(refine Jn ?_;first|(refine J.joinT j1 rfl (by intro;conv=>lhs;simp (disch:=first|exact Zd|fail) only[j1,ZN,simprocAttr]) (by intro;conv=>lhs;simp (disch:=first|exact Zd|fail) only[j1,ZN,simprocAttr]) (λt=>J.hd (k1.eq_1 ..) ?_) (λa1=> ?_);all_goals try simp only[Prod.forall,unit_all]at a1)|(refine J.joinT j2 rfl (by intro;conv=>lhs;simp (disch:=first|exact Zd|fail) only[j2,ZN,simprocAttr]) (by intro;conv=>lhs;simp (disch:=first|exact Zd|fail) only[j2,ZN,simprocAttr]) (λt=>J.hd (k2.eq_1 ..) ?_) (λa2=> ?_);all_goals try simp only[Prod.forall,unit_all]at a2)|(refine J.joinT j3 rfl (by intro;conv=>lhs;simp (disch:=first|exact Zd|fail) only[j3,ZN,simprocAttr]) (by intro;conv=>lhs;simp (disch:=first|exact Zd|fail) only[j3,ZN,simprocAttr]) (λt=>J.hd (k3.eq_1 ..) ?_) (λa3=> ?_);all_goals try simp only[Prod.forall,unit_all]at a3)|(refine J.joinT j4 rfl (by intro;conv=>lhs;simp (disch:=first|exact Zd|fail) only[j4,ZN,simprocAttr]) (by intro;conv=>lhs;simp (disch:=first|exact Zd|fail) only[j4,ZN,simprocAttr]) (λt=>J.hd (k4.eq_1 ..) ?_) (λa4=> ?_);all_goals try simp only[Prod.forall,unit_all]at a4)|(refine J.joinT j5 rfl (by intro;conv=>lhs;simp (disch:=first|exact Zd|fail) only[j5,ZN,simprocAttr]) (by intro;conv=>lhs;simp (disch:=first|exact Zd|fail) only[j5,ZN,simprocAttr]) (λt=>J.hd (k5.eq_1 ..) ?_) (λa5=> ?_);all_goals try simp only[Prod.forall,unit_all]at a5)|(refine J.joinT j6 rfl (by intro;conv=>lhs;simp (disch:=first|exact Zd|fail) only[j6,ZN,simprocAttr]) (by intro;conv=>lhs;simp (disch:=first|exact Zd|fail) only[j6,ZN,simprocAttr]) (λt=>J.hd (k6.eq_1 ..) ?_) (λa6=> ?_);all_goals try simp only[Prod.forall,unit_all]at a6)|(refine J.joinT j7 rfl (by intro;conv=>lhs;simp (disch:=first|exact Zd|fail) only[j7,ZN,simprocAttr]) (by intro;conv=>lhs;simp (disch:=first|exact Zd|fail) only[j7,ZN,simprocAttr]) (λt=>J.hd (k7.eq_1 ..) ?_) (λa7=> ?_);all_goals try simp only[Prod.forall,unit_all]at a7)|(refine J.joinT j8 rfl (by intro;conv=>lhs;simp (disch:=first|exact Zd|fail) only[j8,ZN,simprocAttr]) (by intro;conv=>lhs;simp (disch:=first|exact Zd|fail) only[j8,ZN,simprocAttr]) (λt=>J.hd (k8.eq_1 ..) ?_) (λa8=> ?_);all_goals try simp only[Prod.forall,unit_all]at a8)|(refine J.joinT j9 rfl (by intro;conv=>lhs;simp (disch:=first|exact Zd|fail) only[j9,ZN,simprocAttr]) (by intro;conv=>lhs;simp (disch:=first|exact Zd|fail) only[j9,ZN,simprocAttr]) (λt=>J.hd (k9.eq_1 ..) ?_) (λa9=> ?_);all_goals try simp only[Prod.forall,unit_all]at a9)|(refine J.joinT j10 rfl (by intro;conv=>lhs;simp (disch:=first|exact Zd|fail) only[j10,ZN,simprocAttr]) (by intro;conv=>lhs;simp (disch:=first|exact Zd|fail) only[j10,ZN,simprocAttr]) (λt=>J.hd (k10.eq_1 ..) ?_) (λa10=> ?_);all_goals try simp only[Prod.forall,unit_all]at a10)|(refine J.joinT j11 rfl (by intro;conv=>lhs;simp (disch:=first|exact Zd|fail) only[j11,ZN,simprocAttr]) (by intro;conv=>lhs;simp (disch:=first|exact Zd|fail) only[j11,ZN,simprocAttr]) (λt=>J.hd (k11.eq_1 ..) ?_) (λa11=> ?_);all_goals try simp only[Prod.forall,unit_all]at a11)|(refine J.joinT j12 rfl (by intro;conv=>lhs;simp (disch:=first|exact Zd|fail) only[j12,ZN,simprocAttr]) (by intro;conv=>lhs;simp (disch:=first|exact Zd|fail) only[j12,ZN,simprocAttr]) (λt=>J.hd (k12.eq_1 ..) ?_) (λa12=> ?_);all_goals try simp only[Prod.forall,unit_all]at a12)|refine J.sqj ?_ |refine J.rqj ?_))|(with_reducible refine J.gk ?_;first|(first|(refine J.callT q1 (by intro;conv=>lhs;simp (disch:=first|exact Zd|fail) only[q1,ZN,simprocAttr]) (by intro;conv=>lhs;simp (disch:=first|exact Zd|fail) only[q1,ZN,simprocAttr]) (λt=>J.hd (c1.eq_1 ..) ?_) (λa1 b1=> ?_);all_goals try simp only[Prod.forall,unit_all]at a1 b1)|(refine J.callT q2 (by intro;conv=>lhs;simp (disch:=first|exact Zd|fail) only[q2,ZN,simprocAttr]) (by intro;conv=>lhs;simp (disch:=first|exact Zd|fail) only[q2,ZN,simprocAttr]) (λt=>J.hd (c2.eq_1 ..) ?_) (λa2 b2=> ?_);all_goals try simp only[Prod.forall,unit_all]at a2 b2)|(refine J.callT q3 (by intro;conv=>lhs;simp (disch:=first|exact Zd|fail) only[q3,ZN,simprocAttr]) (by intro;conv=>lhs;simp (disch:=first|exact Zd|fail) only[q3,ZN,simprocAttr]) (λt=>J.hd (c3.eq_1 ..) ?_) (λa3 b3=> ?_);all_goals try simp only[Prod.forall,unit_all]at a3 b3)|(refine J.callT q4 (by intro;conv=>lhs;simp (disch:=first|exact Zd|fail) only[q4,ZN,simprocAttr]) (by intro;conv=>lhs;simp (disch:=first|exact Zd|fail) only[q4,ZN,simprocAttr]) (λt=>J.hd (c4.eq_1 ..) ?_) (λa4 b4=> ?_);all_goals try simp only[Prod.forall,unit_all]at a4 b4)|(refine J.callT q5 (by intro;conv=>lhs;simp (disch:=first|exact Zd|fail) only[q5,ZN,simprocAttr]) (by intro;conv=>lhs;simp (disch:=first|exact Zd|fail) only[q5,ZN,simprocAttr]) (λt=>J.hd (c5.eq_1 ..) ?_) (λa5 b5=> ?_);all_goals try simp only[Prod.forall,unit_all]at a5 b5)|(refine J.callT q6 (by intro;conv=>lhs;simp (disch:=first|exact Zd|fail) only[q6,ZN,simprocAttr]) (by intro;conv=>lhs;simp (disch:=first|exact Zd|fail) only[q6,ZN,simprocAttr]) (λt=>J.hd (c6.eq_1 ..) ?_) (λa6 b6=> ?_);all_goals try simp only[Prod.forall,unit_all]at a6 b6)|(refine J.callT q7 (by intro;conv=>lhs;simp (disch:=first|exact Zd|fail) only[q7,ZN,simprocAttr]) (by intro;conv=>lhs;simp (disch:=first|exact Zd|fail) only[q7,ZN,simprocAttr]) (λt=>J.hd (c7.eq_1 ..) ?_) (λa7 b7=> ?_);all_goals try simp only[Prod.forall,unit_all]at a7 b7)|(refine J.callT q8 (by intro;conv=>lhs;simp (disch:=first|exact Zd|fail) only[q8,ZN,simprocAttr]) (by intro;conv=>lhs;simp (disch:=first|exact Zd|fail) only[q8,ZN,simprocAttr]) (λt=>J.hd (c8.eq_1 ..) ?_) (λa8 b8=> ?_);all_goals try simp only[Prod.forall,unit_all]at a8 b8)|(refine J.callT q9 (by intro;conv=>lhs;simp (disch:=first|exact Zd|fail) only[q9,ZN,simprocAttr]) (by intro;conv=>lhs;simp (disch:=first|exact Zd|fail) only[q9,ZN,simprocAttr]) (λt=>J.hd (c9.eq_1 ..) ?_) (λa9 b9=> ?_);all_goals try simp only[Prod.forall,unit_all]at a9 b9)|(refine J.callT q10 (by intro;conv=>lhs;simp (disch:=first|exact Zd|fail) only[q10,ZN,simprocAttr]) (by intro;conv=>lhs;simp (disch:=first|exact Zd|fail) only[q10,ZN,simprocAttr]) (λt=>J.hd (c10.eq_1 ..) ?_) (λa10 b10=> ?_);all_goals try simp only[Prod.forall,unit_all]at a10 b10)|(refine J.callT q11 (by intro;conv=>lhs;simp (disch:=first|exact Zd|fail) only[q11,ZN,simprocAttr]) (by intro;conv=>lhs;simp (disch:=first|exact Zd|fail) only[q11,ZN,simprocAttr]) (λt=>J.hd (c11.eq_1 ..) ?_) (λa11 b11=> ?_);all_goals try simp only[Prod.forall,unit_all]at a11 b11)|(refine J.callT q12 (by intro;conv=>lhs;simp (disch:=first|exact Zd|fail) only[q12,ZN,simprocAttr]) (by intro;conv=>lhs;simp (disch:=first|exact Zd|fail) only[q12,ZN,simprocAttr]) (λt=>J.hd (c12.eq_1 ..) ?_) (λa12 b12=> ?_);all_goals try simp only[Prod.forall,unit_all]at a12 b12)|refine J.sqc ?_ |refine J.rqc ?_)|(refine Jk ?_;first|(refine J.callT q1 (by intro;conv=>lhs;simp (disch:=first|exact Zd|fail) only[q1,ZN,simprocAttr]) (by intro;conv=>lhs;simp (disch:=first|exact Zd|fail) only[q1,ZN,simprocAttr]) (λt=>J.hd (c1.eq_1 ..) ?_) (λa1 b1=> ?_);all_goals try simp only[Prod.forall,unit_all]at a1 b1)|(refine J.callT q2 (by intro;conv=>lhs;simp (disch:=first|exact Zd|fail) only[q2,ZN,simprocAttr]) (by intro;conv=>lhs;simp (disch:=first|exact Zd|fail) only[q2,ZN,simprocAttr]) (λt=>J.hd (c2.eq_1 ..) ?_) (λa2 b2=> ?_);all_goals try simp only[Prod.forall,unit_all]at a2 b2)|(refine J.callT q3 (by intro;conv=>lhs;simp (disch:=first|exact Zd|fail) only[q3,ZN,simprocAttr]) (by intro;conv=>lhs;simp (disch:=first|exact Zd|fail) only[q3,ZN,simprocAttr]) (λt=>J.hd (c3.eq_1 ..) ?_) (λa3 b3=> ?_);all_goals try simp only[Prod.forall,unit_all]at a3 b3)|(refine J.callT q4 (by intro;conv=>lhs;simp (disch:=first|exact Zd|fail) only[q4,ZN,simprocAttr]) (by intro;conv=>lhs;simp (disch:=first|exact Zd|fail) only[q4,ZN,simprocAttr]) (λt=>J.hd (c4.eq_1 ..) ?_) (λa4 b4=> ?_);all_goals try simp only[Prod.forall,unit_all]at a4 b4)|(refine J.callT q5 (by intro;conv=>lhs;simp (disch:=first|exact Zd|fail) only[q5,ZN,simprocAttr]) (by intro;conv=>lhs;simp (disch:=first|exact Zd|fail) only[q5,ZN,simprocAttr]) (λt=>J.hd (c5.eq_1 ..) ?_) (λa5 b5=> ?_);all_goals try simp only[Prod.forall,unit_all]at a5 b5)|(refine J.callT q6 (by intro;conv=>lhs;simp (disch:=first|exact Zd|fail) only[q6,ZN,simprocAttr]) (by intro;conv=>lhs;simp (disch:=first|exact Zd|fail) only[q6,ZN,simprocAttr]) (λt=>J.hd (c6.eq_1 ..) ?_) (λa6 b6=> ?_);all_goals try simp only[Prod.forall,unit_all]at a6 b6)|(refine J.callT q7 (by intro;conv=>lhs;simp (disch:=first|exact Zd|fail) only[q7,ZN,simprocAttr]) (by intro;conv=>lhs;simp (disch:=first|exact Zd|fail) only[q7,ZN,simprocAttr]) (λt=>J.hd (c7.eq_1 ..) ?_) (λa7 b7=> ?_);all_goals try simp only[Prod.forall,unit_all]at a7 b7)|(refine J.callT q8 (by intro;conv=>lhs;simp (disch:=first|exact Zd|fail) only[q8,ZN,simprocAttr]) (by intro;conv=>lhs;simp (disch:=first|exact Zd|fail) only[q8,ZN,simprocAttr]) (λt=>J.hd (c8.eq_1 ..) ?_) (λa8 b8=> ?_);all_goals try simp only[Prod.forall,unit_all]at a8 b8)|(refine J.callT q9 (by intro;conv=>lhs;simp (disch:=first|exact Zd|fail) only[q9,ZN,simprocAttr]) (by intro;conv=>lhs;simp (disch:=first|exact Zd|fail) only[q9,ZN,simprocAttr]) (λt=>J.hd (c9.eq_1 ..) ?_) (λa9 b9=> ?_);all_goals try simp only[Prod.forall,unit_all]at a9 b9)|(refine J.callT q10 (by intro;conv=>lhs;simp (disch:=first|exact Zd|fail) only[q10,ZN,simprocAttr]) (by intro;conv=>lhs;simp (disch:=first|exact Zd|fail) only[q10,ZN,simprocAttr]) (λt=>J.hd (c10.eq_1 ..) ?_) (λa10 b10=> ?_);all_goals try simp only[Prod.forall,unit_all]at a10 b10)|(refine J.callT q11 (by intro;conv=>lhs;simp (disch:=first|exact Zd|fail) only[q11,ZN,simprocAttr]) (by intro;conv=>lhs;simp (disch:=first|exact Zd|fail) only[q11,ZN,simprocAttr]) (λt=>J.hd (c11.eq_1 ..) ?_) (λa11 b11=> ?_);all_goals try simp only[Prod.forall,unit_all]at a11 b11)|(refine J.callT q12 (by intro;conv=>lhs;simp (disch:=first|exact Zd|fail) only[q12,ZN,simprocAttr]) (by intro;conv=>lhs;simp (disch:=first|exact Zd|fail) only[q12,ZN,simprocAttr]) (λt=>J.hd (c12.eq_1 ..) ?_) (λa12 b12=> ?_);all_goals try simp only[Prod.forall,unit_all]at a12 b12)|refine J.sqc ?_ |refine J.rqc ?_))|refine J.eq go_b67 ?_ |(with_reducible refine J.gl ?_;first|(first|refine J.loopT m1 rfl (by intro;conv=>lhs;simp (disch:=first|exact Zd|fail) only[m1,ZN,simprocAttr]) (by intro;conv=>lhs;simp (disch:=first|exact Zd|fail) only[m1,ZN,simprocAttr]) Zx Zx (λnext k n s=>J.hd (L1.eq_1 ..) ?_)|refine J.loopT m2 rfl (by intro;conv=>lhs;simp (disch:=first|exact Zd|fail) only[m2,ZN,simprocAttr]) (by intro;conv=>lhs;simp (disch:=first|exact Zd|fail) only[m2,ZN,simprocAttr]) Zx Zx (λnext k n s=>J.hd (L2.eq_1 ..) ?_)|refine J.loopT m3 rfl (by intro;conv=>lhs;simp (disch:=first|exact Zd|fail) only[m3,ZN,simprocAttr]) (by intro;conv=>lhs;simp (disch:=first|exact Zd|fail) only[m3,ZN,simprocAttr]) Zx Zx (λnext k n s=>J.hd (L3.eq_1 ..) ?_)|refine J.loopT m4 rfl (by intro;conv=>lhs;simp (disch:=first|exact Zd|fail) only[m4,ZN,simprocAttr]) (by intro;conv=>lhs;simp (disch:=first|exact Zd|fail) only[m4,ZN,simprocAttr]) Zx Zx (λnext k n s=>J.hd (L4.eq_1 ..) ?_)|refine J.loopT m5 rfl (by intro;conv=>lhs;simp (disch:=first|exact Zd|fail) only[m5,ZN,simprocAttr]) (by intro;conv=>lhs;simp (disch:=first|exact Zd|fail) only[m5,ZN,simprocAttr]) Zx Zx (λnext k n s=>J.hd (L5.eq_1 ..) ?_)|refine J.loopT m6 rfl (by intro;conv=>lhs;simp (disch:=first|exact Zd|fail) only[m6,ZN,simprocAttr]) (by intro;conv=>lhs;simp (disch:=first|exact Zd|fail) only[m6,ZN,simprocAttr]) Zx Zx (λnext k n s=>J.hd (L6.eq_1 ..) ?_)|refine J.loopT m7 rfl (by intro;conv=>lhs;simp (disch:=first|exact Zd|fail) only[m7,ZN,simprocAttr]) (by intro;conv=>lhs;simp (disch:=first|exact Zd|fail) only[m7,ZN,simprocAttr]) Zx Zx (λnext k n s=>J.hd (L7.eq_1 ..) ?_)|refine J.loopT m8 rfl (by intro;conv=>lhs;simp (disch:=first|exact Zd|fail) only[m8,ZN,simprocAttr]) (by intro;conv=>lhs;simp (disch:=first|exact Zd|fail) only[m8,ZN,simprocAttr]) Zx Zx (λnext k n s=>J.hd (L8.eq_1 ..) ?_)|refine J.sql ?_ |refine J.rql ?_)|(refine Jl ?_;first|refine J.loopT m1 rfl (by intro;conv=>lhs;simp (disch:=first|exact Zd|fail) only[m1,ZN,simprocAttr]) (by intro;conv=>lhs;simp (disch:=first|exact Zd|fail) only[m1,ZN,simprocAttr]) Zx Zx (λnext k n s=>J.hd (L1.eq_1 ..) ?_)|refine J.loopT m2 rfl (by intro;conv=>lhs;simp (disch:=first|exact Zd|fail) only[m2,ZN,simprocAttr]) (by intro;conv=>lhs;simp (disch:=first|exact Zd|fail) only[m2,ZN,simprocAttr]) Zx Zx (λnext k n s=>J.hd (L2.eq_1 ..) ?_)|refine J.loopT m3 rfl (by intro;conv=>lhs;simp (disch:=first|exact Zd|fail) only[m3,ZN,simprocAttr]) (by intro;conv=>lhs;simp (disch:=first|exact Zd|fail) only[m3,ZN,simprocAttr]) Zx Zx (λnext k n s=>J.hd (L3.eq_1 ..) ?_)|refine J.loopT m4 rfl (by intro;conv=>lhs;simp (disch:=first|exact Zd|fail) only[m4,ZN,simprocAttr]) (by intro;conv=>lhs;simp (disch:=first|exact Zd|fail) only[m4,ZN,simprocAttr]) Zx Zx (λnext k n s=>J.hd (L4.eq_1 ..) ?_)|refine J.loopT m5 rfl (by intro;conv=>lhs;simp (disch:=first|exact Zd|fail) only[m5,ZN,simprocAttr]) (by intro;conv=>lhs;simp (disch:=first|exact Zd|fail) only[m5,ZN,simprocAttr]) Zx Zx (λnext k n s=>J.hd (L5.eq_1 ..) ?_)|refine J.loopT m6 rfl (by intro;conv=>lhs;simp (disch:=first|exact Zd|fail) only[m6,ZN,simprocAttr]) (by intro;conv=>lhs;simp (disch:=first|exact Zd|fail) only[m6,ZN,simprocAttr]) Zx Zx (λnext k n s=>J.hd (L6.eq_1 ..) ?_)|refine J.loopT m7 rfl (by intro;conv=>lhs;simp (disch:=first|exact Zd|fail) only[m7,ZN,simprocAttr]) (by intro;conv=>lhs;simp (disch:=first|exact Zd|fail) only[m7,ZN,simprocAttr]) Zx Zx (λnext k n s=>J.hd (L7.eq_1 ..) ?_)|refine J.loopT m8 rfl (by intro;conv=>lhs;simp (disch:=first|exact Zd|fail) only[m8,ZN,simprocAttr]) (by intro;conv=>lhs;simp (disch:=first|exact Zd|fail) only[m8,ZN,simprocAttr]) Zx Zx (λnext k n s=>J.hd (L8.eq_1 ..) ?_)|refine J.sql ?_ |refine J.rql ?_))|((with_reducible refine J.gr ?_);first|(first|refine J.rngT r1 rfl (by intro;conv=>lhs;simp (disch:=first|exact Zd|fail) only[r1,ZN,simprocAttr]) Zx (λs=>J.hd (E1.eq_1 ..) ?_) (λy next nx n s=>J.hd (R1.eq_1 ..) ?_)|refine J.rngT r2 rfl (by intro;conv=>lhs;simp (disch:=first|exact Zd|fail) only[r2,ZN,simprocAttr]) Zx (λs=>J.hd (E2.eq_1 ..) ?_) (λy next nx n s=>J.hd (R2.eq_1 ..) ?_)|refine J.rngT r3 rfl (by intro;conv=>lhs;simp (disch:=first|exact Zd|fail) only[r3,ZN,simprocAttr]) Zx (λs=>J.hd (E3.eq_1 ..) ?_) (λy next nx n s=>J.hd (R3.eq_1 ..) ?_)|refine J.rngT r4 rfl (by intro;conv=>lhs;simp (disch:=first|exact Zd|fail) only[r4,ZN,simprocAttr]) Zx (λs=>J.hd (E4.eq_1 ..) ?_) (λy next nx n s=>J.hd (R4.eq_1 ..) ?_))|(refine Jr ?_;first|refine J.rngT r1 rfl (by intro;conv=>lhs;simp (disch:=first|exact Zd|fail) only[r1,ZN,simprocAttr]) Zx (λs=>J.hd (E1.eq_1 ..) ?_) (λy next nx n s=>J.hd (R1.eq_1 ..) ?_)|refine J.rngT r2 rfl (by intro;conv=>lhs;simp (disch:=first|exact Zd|fail) only[r2,ZN,simprocAttr]) Zx (λs=>J.hd (E2.eq_1 ..) ?_) (λy next nx n s=>J.hd (R2.eq_1 ..) ?_)|refine J.rngT r3 rfl (by intro;conv=>lhs;simp (disch:=first|exact Zd|fail) only[r3,ZN,simprocAttr]) Zx (λs=>J.hd (E3.eq_1 ..) ?_) (λy next nx n s=>J.hd (R3.eq_1 ..) ?_)|refine J.rngT r4 rfl (by intro;conv=>lhs;simp (disch:=first|exact Zd|fail) only[r4,ZN,simprocAttr]) Zx (λs=>J.hd (E4.eq_1 ..) ?_) (λy next nx n s=>J.hd (R4.eq_1 ..) ?_)))|(refine Jg ?_;first|((with_reducible apply a1) <;> first|exact()|exact Zx)|((with_reducible apply a2) <;> first|exact()|exact Zx)|((with_reducible apply a3) <;> first|exact()|exact Zx)|((with_reducible apply a4) <;> first|exact()|exact Zx)|((with_reducible apply a5) <;> first|exact()|exact Zx)|((with_reducible apply a6) <;> first|exact()|exact Zx)|((with_reducible apply a7) <;> first|exact()|exact Zx)|((with_reducible apply a8) <;> first|exact()|exact Zx)|((with_reducible apply a9) <;> first|exact()|exact Zx)|((with_reducible apply a10) <;> first|exact()|exact Zx)|((with_reducible apply a11) <;> first|exact()|exact Zx)|((with_reducible apply a12) <;> first|exact()|exact Zx)|((with_reducible apply b1) <;> first|exact()|exact Zx)|((with_reducible apply b2) <;> first|exact()|exact Zx)|((with_reducible apply b3) <;> first|exact()|exact Zx)|((with_reducible apply b4) <;> first|exact()|exact Zx)|((with_reducible apply b5) <;> first|exact()|exact Zx)|((with_reducible apply b6) <;> first|exact()|exact Zx)|((with_reducible apply b7) <;> first|exact()|exact Zx)|((with_reducible apply b8) <;> first|exact()|exact Zx)|((with_reducible apply b9) <;> first|exact()|exact Zx)|((with_reducible apply b10) <;> first|exact()|exact Zx)|((with_reducible apply b11) <;> first|exact()|exact Zx)|((with_reducible apply b12) <;> first|exact()|exact Zx)|refine J.nextT (by assumption) Zx Zx|refine J.rnextT (by assumption) Zx)):p:=h
def d20:List (Nat×List Nat):=[(0,[2]),(0,[]),(0,[0,3,4,5,6,7,8,9,10,11,12])]
def d20_at:=by have h:=tabL d20.eq_1;simp only[AllAt,Nat.zero_add,Nat.reduceAdd]at h;exact h
theorem i20:finfo Tryz.prog 20 d20=some ⟨bodyOf Tryz.f20,[.tmp 2],[4]⟩:=finfo_at Tryz.func20 rfl (by kernel_rfl) (by kernel_rfl)
def e20:Bool->AV:=λr=> .v (.bool r)
set_option maxHeartbeats 20000000 in
theorem w20(cp:CallP)(fu:Nat)(x1:Int):J (go Tryz.prog noC cp noI 0 [] d20 fu (fin Tryz.prog [.tmp 2] [4]) (bodyOf Tryz.f20) (initE 0 [.v (.int .i64 x1)]) [] []) (ref05_Known fu x1) e20:=by
 unfold ref05_Known e20
 have da:=d20_at
 conv=>arg 1;simp only[bodyOf,Tryz.f20]
 have z0:=d20_at
 exact Wk
theorem ok20(fu:Nat)(x1:Int)(r)(h:ref05_Known fu x1=some r):PureOK Tryz.prog 20 [.v (.int .i64 x1)] (e20 r):=pureT mixed [] (ids:=[]) rfl (by decide) i20 (C:=noC) (ci:=λcp=>noI) (λcp ok=>noI_ok) (λcp H=>w20 cp fu x1) h
def d21:List (Nat×List Nat):=[(0,[2,3]),(0,[6]),(0,[]),(0,[]),(0,[9,10,11]),(0,[0,8]),(0,[]),(0,[]),(0,[12,13,14]),(0,[]),(0,[16,17]),(0,[]),(0,[18,19,20,21]),(0,[]),(0,[]),(0,[]),(0,[23,24,25,26,27,28,29,30]),(0,[]),(0,[31,32,33,34,35,36,37,38]),(0,[]),(0,[5]),(0,[]),(0,[]),(0,[]),(0,[4]),(0,[]),(0,[]),(0,[]),(0,[]),(0,[]),(0,[]),(0,[]),(0,[41,42,43]),(0,[]),(0,[45,46]),(0,[]),(0,[47,48,49,50,51,52,53,54,55,56,57,58,59]),(0,[]),(0,[]),(0,[]),(0,[61,62,63,64,65,66]),(0,[]),(0,[7,67])]
def d21_at:=by have h:=tabL d21.eq_1;simp only[AllAt,Nat.zero_add,Nat.reduceAdd]at h;exact h
theorem i21:finfo Tryz.prog 21 d21=some ⟨bodyOf Tryz.f21,[.tmp 2,.tmp 3],[3,32]⟩:=finfo_at Tryz.func21 rfl (by kernel_rfl) (by kernel_rfl)
def e21:(Int×Int)->AV:=λr=> .tuple [.v (.int .i64 r.1),.v (.int .i64 r.2)]
def ref04_Size.j2:LJ 2 40 Unit Unit:=⟨λr t e=>[(0,er e 0),(7,er e 7),(8,er e 8)],λr t h=>[]⟩
def ref04_Size.m1:LJ 1 32 Unit (Int×Int):=⟨λr s e=>[(0,er e 0),(7,.v (.int .i64 s.1)),(8,.v (.int .i64 s.2))],λr s h=>[]⟩
def ref04_Size.j3:LJ 3 18 Unit Bool:=⟨λr t e=>[(0,er e 0),(4,.v (.bool t)),(5,er e 5),(6,er e 6)],λr t h=>[]⟩
def ref04_Size.m2:LJ 2 8 Unit (Bool×Bool×Int):=⟨λr s e=>[(0,er e 0),(4,.v (.bool s.1)),(5,.v (.bool s.2.1)),(6,.v (.int .i64 s.2.2))],λr s h=>[]⟩
def ref04_Size.j1:LJ 1 20 Unit (Bool×Bool):=⟨λr t e=>[(0,er e 0),(4,.v (.bool t.1)),(5,.v (.bool t.2))],λr t h=>[]⟩
set_option maxHeartbeats 20000000 in
open ref04_Size in
theorem w21(cp:CallP)(fu:Nat)(x1:List Int):J (go Tryz.prog noC cp noI 0 [] d21 fu (fin Tryz.prog [.tmp 2,.tmp 3] [3,32]) (bodyOf Tryz.f21) (initE 0 [.arr x1.length (lm (ik .i64) x1)]) [] []) (ref04_Size fu x1) e21:=by
 unfold ref04_Size e21
 have da:=d21_at
 conv=>arg 1;simp only[bodyOf,Tryz.f21]
 have z0:=d21_at
 exact Wk
theorem ok21(fu:Nat)(x1:List Int)(r)(h:ref04_Size fu x1=some r):PureOK Tryz.prog 21 [.arr x1.length (lm (ik .i64) x1)] (e21 r):=pureT mixed [] (ids:=[]) rfl (by decide) i21 (C:=noC) (ci:=λcp=>noI) (λcp ok=>noI_ok) (λcp H=>w21 cp fu x1) h
def d11:List (Nat×List Nat):=[(0,[0,2]),(0,[3,22]),(0,[8,9,10]),(0,[]),(0,[]),(0,[]),(0,[12,13,14,15,16,17]),(0,[]),(0,[18]),(0,[]),(0,[20]),(0,[]),(0,[4]),(0,[]),(0,[]),(0,[]),(0,[]),(0,[]),(0,[21]),(0,[]),(0,[23]),(0,[]),(0,[25]),(0,[]),(0,[26]),(0,[]),(0,[28]),(0,[]),(0,[29]),(0,[]),(0,[1,5,6,7,30,31,32,33,34,35,36,37,38,39,40,41,42,43,44,45,46,47]),(0,[]),(0,[]),(0,[]),(0,[])]
def d11_at:=by have h:=tabL d11.eq_1;simp only[AllAt,Nat.zero_add,Nat.reduceAdd]at h;exact h
theorem i11:finfo Tryz.prog 11 d11=some ⟨bodyOf Tryz.f11,[.tmp 2],[32]⟩:=finfo_at Tryz.func11 rfl (by kernel_rfl) (by kernel_rfl)
def e11:Int->AV:=λr=> .v (.int .i64 r)
structure K20 (fu:Nat) (cp:CallP):Prop where
 ap: ∀ {a0:Int} {r},ref05_Known fu a0=some r->cp 20 [.v (.int .i64 a0)]=some (.v (.bool r))
noncomputable def C20(fu:Nat):Cm Tryz.prog Int Bool:=⟨20,λt=>[.v (.int .i64 t)],λt=>ref05_Known fu t,e20,λt b h=>ok20 fu t b h,Zi⟩
theorem u20{fu:Nat}{cp:CallP}(H:Hit cp (C20 fu).ct):K20 fu cp:=⟨λ {a0 r} h=>(C20 fu).at H a0 r h⟩
structure K21 (fu:Nat) (cp:CallP):Prop where
 ap: ∀ {a0:List Int} {r},ref04_Size fu a0=some r->cp 21 [.arr a0.length (lm (ik .i64) a0)]=some (.tuple [.v (.int .i64 r.1),.v (.int .i64 r.2)])
noncomputable def C21(fu:Nat):Cm Tryz.prog (List Int) (Int×Int):=⟨21,λt=>[.arr t.length (lm (ik .i64) t)],λt=>ref04_Size fu t,e21,λt b h=>ok21 fu t b h,Zi⟩
theorem u21{fu:Nat}{cp:CallP}(H:Hit cp (C21 fu).ct):K21 fu cp:=⟨λ {a0 r} h=>(C21 fu).at H a0 r h⟩
def ref05_Check.j1:LJ 1 30 Unit (Int×Int×Int):=⟨λr t e=>[(1,er e 1),(5,.v (.int .i64 t.1)),(6,.v (.int .i64 t.2.1)),(7,.v (.int .i64 t.2.2))],λr t h=>[((0,1,0),hr h (0,1,0))]⟩
set_option maxHeartbeats 20000000 in
open ref05_Check in
theorem w11(cp:CallP)(fu:Nat)(x1:T_Tensor)(H1:K20 fu cp)(H2:K21 fu cp):J (go Tryz.prog noC cp noI 0 [] d11 fu (fin Tryz.prog [.tmp 2] [32]) (bodyOf Tryz.f11) (initE 0 [.agg (c_T_Tensor x1)]) [] []) (ref05_Check fu x1) e11:=by
 unfold ref05_Check e11
 have da:=d11_at
 conv=>arg 1;simp only[bodyOf,Tryz.f11]
 have z0:=d11_at
 exact Wk
theorem ok11(fu:Nat)(x1:T_Tensor)(r)(h:ref05_Check fu x1=some r):PureOK Tryz.prog 11 [.agg (c_T_Tensor x1)] (e11 r):=pureT mixed [(C20 fu).ct,(C21 fu).ct] (ids:=[20,21]) rfl (by decide) i11 (C:=noC) (ci:=λcp=>noI) (λcp ok=>noI_ok) (λcp H=>w11 cp fu x1 (u20 H.1) (u21 H.2.1)) h
def d12:List (Nat×List Nat):=[(0,[0]),(0,[]),(0,[4,5,6]),(0,[]),(0,[7,8,9,10,11,12]),(0,[]),(0,[13,14,15,16,17,18]),(0,[]),(0,[19,20,21,22,23,24]),(0,[]),(0,[1,25,26,27,28,29,30]),(0,[]),(0,[3,31])]
def d12_at:=by have h:=tabL d12.eq_1;simp only[AllAt,Nat.zero_add,Nat.reduceAdd]at h;exact h
theorem i12:finfo Tryz.prog 12 d12=some ⟨bodyOf Tryz.f12,[.cell 2 31],[31]⟩:=finfo_at Tryz.func12 rfl (by kernel_rfl) (by kernel_rfl)
def e12:T_Tensor->AV:=λr=> .agg [.v (.int .i64 r.fType),.fresh 1 r.fDims.length (lm (ik .i64) r.fDims),.fresh 1 r.fF.length (lm (ik .u32) r.fF),.fresh 1 r.fI.length (lm (ik .i64) r.fI),.fresh 1 r.fB.length (lm (bk) r.fB)]
set_option maxHeartbeats 20000000 in
theorem w12(cp:CallP)(fu:Nat)(x1:T_Tensor):J (go Tryz.prog noC cp noI 0 [] d12 fu (fin Tryz.prog [.cell 2 31] [31]) (bodyOf Tryz.f12) (initE 0 [.agg (c_T_Tensor x1)]) [] []) (ref05_Copy fu x1) e12:=by
 unfold ref05_Copy e12
 have da:=d12_at
 conv=>arg 1;simp only[bodyOf,Tryz.f12]
 have z0:=d12_at
 exact Wk
theorem ok12(fu:Nat)(x1:T_Tensor)(r)(h:ref05_Copy fu x1=some r):PureOK Tryz.prog 12 [.agg (c_T_Tensor x1)] (e12 r):=pureT mixed [] (ids:=[]) rfl (by decide) i12 (C:=noC) (ci:=λcp=>noI) (λcp ok=>noI_ok) (λcp H=>w12 cp fu x1) h
open Aw (d22)
def d22_at:=by have h:=tabL Aw.d22.eq_1;simp only[AllAt,Nat.zero_add,Nat.reduceAdd]at h;exact h
theorem i22:finfo Tryz.prog 22 d22=some ⟨bodyOf Tryz.f22,[.tmp 2],[4]⟩:=finfo_at Tryz.func22 rfl (by kernel_rfl) (by kernel_rfl)
def e22:Bool->AV:=λr=> .v (.bool r)
set_option maxHeartbeats 20000000 in
theorem w22(cp:CallP)(fu:Nat)(x1:Int):J (go Tryz.prog noC cp noI 0 [] d22 fu (fin Tryz.prog [.tmp 2] [4]) (bodyOf Tryz.f22) (initE 0 [.v (.int .i64 x1)]) [] []) (reduce_Has fu x1) e22:=by
 unfold reduce_Has e22
 have da:=d22_at
 conv=>arg 1;simp only[bodyOf,Tryz.f22]
 have z0:=d22_at
 exact Wk
theorem ok22(fu:Nat)(x1:Int)(r)(h:reduce_Has fu x1=some r):PureOK Tryz.prog 22 [.v (.int .i64 x1)] (e22 r):=pureT mixed [] (ids:=[]) rfl (by decide) i22 (C:=noC) (ci:=λcp=>noI) (λcp ok=>noI_ok) (λcp H=>w22 cp fu x1) h
open Aw (d80)
def d80_at:=by have h:=tabL Aw.d80.eq_1;simp only[AllAt,Nat.zero_add,Nat.reduceAdd]at h;exact h
theorem i80:finfo Tryz.prog 80 d80=some ⟨bodyOf Tryz.f80,[.tmp 2],[3]⟩:=finfo_at Tryz.func80 rfl (by kernel_rfl) (by kernel_rfl)
def e80:Int->AV:=λr=> .v (.int .i64 r)
set_option maxHeartbeats 20000000 in
theorem w80(cp:CallP)(fu:Nat)(x1:Int):J (go Tryz.prog noC cp noI 0 [] d80 fu (fin Tryz.prog [.tmp 2] [3]) (bodyOf Tryz.f80) (initE 0 [.v (.int .i64 x1)]) [] []) (tens_Width fu x1) e80:=by
 unfold tens_Width e80
 have da:=d80_at
 conv=>arg 1;simp only[bodyOf,Tryz.f80]
 have z0:=d80_at
 exact Wk
theorem ok80(fu:Nat)(x1:Int)(r)(h:tens_Width fu x1=some r):PureOK Tryz.prog 80 [.v (.int .i64 x1)] (e80 r):=pureT mixed [] (ids:=[]) rfl (by decide) i80 (C:=noC) (ci:=λcp=>noI) (λcp ok=>noI_ok) (λcp H=>w80 cp fu x1) h
open Aw (d38)
def d38_at:=by have h:=tabL Aw.d38.eq_1;simp only[AllAt,Nat.zero_add,Nat.reduceAdd]at h;exact h
theorem i38:finfo Tryz.prog 38 d38=some ⟨bodyOf Tryz.f38,[.tmp 2],[4]⟩:=finfo_at Tryz.func38 rfl (by kernel_rfl) (by kernel_rfl)
def e38:Bool->AV:=λr=> .v (.bool r)
structure K80 (fu:Nat) (cp:CallP):Prop where
 ap: ∀ {a0:Int} {r},tens_Width fu a0=some r->cp 80 [.v (.int .i64 a0)]=some (.v (.int .i64 r))
noncomputable def C80(fu:Nat):Cm Tryz.prog Int Int:=⟨80,λt=>[.v (.int .i64 t)],λt=>tens_Width fu t,e80,λt b h=>ok80 fu t b h,Zi⟩
theorem u80{fu:Nat}{cp:CallP}(H:Hit cp (C80 fu).ct):K80 fu cp:=⟨λ {a0 r} h=>(C80 fu).at H a0 r h⟩
set_option maxHeartbeats 20000000 in
theorem w38(cp:CallP)(fu:Nat)(x1:Int)(H1:K80 fu cp):J (go Tryz.prog noC cp noI 0 [] d38 fu (fin Tryz.prog [.tmp 2] [4]) (bodyOf Tryz.f38) (initE 0 [.v (.int .i64 x1)]) [] []) (tens_known fu x1) e38:=by
 unfold tens_known e38
 have da:=d38_at
 conv=>arg 1;simp only[bodyOf,Tryz.f38]
 have z0:=d38_at
 exact Wk
theorem ok38(fu:Nat)(x1:Int)(r)(h:tens_known fu x1=some r):PureOK Tryz.prog 38 [.v (.int .i64 x1)] (e38 r):=pureT mixed [(C80 fu).ct] (ids:=[80]) rfl (by decide) i38 (C:=noC) (ci:=λcp=>noI) (λcp ok=>noI_ok) (λcp H=>w38 cp fu x1 (u80 H.1)) h
open Aw (d148)
def d148_at:=by have h:=tabL Aw.d148.eq_1;simp only[AllAt,Nat.zero_add,Nat.reduceAdd]at h;exact h
theorem i148:finfo Tryz.prog 148 d148=some ⟨bodyOf Tryz.f148,[.tmp 4],[3]⟩:=finfo_at Tryz.func148 rfl (by kernel_rfl) (by kernel_rfl)
def e148:Int->AV:=λr=> .v (.int .i64 r)
set_option maxHeartbeats 20000000 in
theorem w148(cp:CallP)(fu:Nat)(x1:List Int)(p1:Int→Option Bool)(fv_p1:FuncId)(ca_p1:List AV)(cap_p1:Capt ca_p1)(hp_p1: ∀ (y0:Int) r,p1 y0=some r→cp fv_p1 ((.v (.int .i64 y0))::ca_p1)=some (.v (.bool r))):J (go Tryz.prog noC cp noI 0 [] d148 fu (fin Tryz.prog [.tmp 4] [3]) (bodyOf Tryz.f148) (initE 0 [.arr x1.length (lm (ik .i64) x1),.fn fv_p1 [] ca_p1]) [] []) (slices_IndexFunc_int fu x1 p1) e148:=by
 unfold slices_IndexFunc_int e148
 have da:=d148_at
 have c4_p1:=λg=>(cap_p1.1 g).1;have c3_p1:=λg=>(cap_p1.1 g).2.1;have b4_p1:=λg=>(cap_p1.1 g).2.2.1;have b3_p1:=λg=>(cap_p1.1 g).2.2.2;have nm_p1:=cap_p1.2
 conv=>arg 1;simp (disch:=first|exact Zd|fail) only[bodyOf,Tryz.f148,ZZ,d148_at,simprocAttr,c4_p1,c3_p1,b4_p1,b3_p1,nm_p1]
 refine J.eq go_seq ?_
 conv=>arg 1;simp (disch:=first|exact Zd|fail) only[ZZ,d148_at,simprocAttr,c4_p1,c3_p1,b4_p1,b3_p1,nm_p1]
 unfold slices_IndexFunc_int.W1
 refine J.loop (λ(s:Int)=>([(0,.arr x1.length (lm (ik .i64) x1)),(1,.fn fv_p1 [] ca_p1),(7,.v (.int .i64 (x1.length:Int))),(8,.v (.int .i64 s))],[])) (λnext s=>slices_IndexFunc_int.L1 fu p1 x1 next s) (s0:=0) ?_ ?_ ?_
 ·exact Ze
 ·exact Zh
 rintro nx1 k1 hn1 x4
 show J _ (slices_IndexFunc_int.L1 fu p1 x1 nx1 x4) _
 unfold slices_IndexFunc_int.L1
 conv=>arg 1;simp (disch:=first|exact Zd|fail) only[ZZ,d148_at,simprocAttr,c4_p1,c3_p1,b4_p1,b3_p1,nm_p1]
 refine J.eq go_seq ?_
 conv=>arg 1;simp (disch:=first|exact Zd|fail) only[ZZ,d148_at,simprocAttr,c4_p1,c3_p1,b4_p1,b3_p1,nm_p1]
 refine J.ite (λh1=> ?_) (λh1=> ?_)
 ·have h1':=decide_eq_true h1
  have h1'':decide ((x1.length:Int)<=x4)=false:=decide_eq_false (by omega)
  conv=>arg 1;simp (disch:=first|exact Zd|fail) only[ZZ,d148_at,simprocAttr,c4_p1,c3_p1,b4_p1,b3_p1,nm_p1,h1'',h1']
  refine J.eq ret_seq ?_
  refine J.eq go_seq ?_
  refine J.at λx7 h2 h3 h4=> ?_
  refine J.bind λx8 h5=> ?_
  have e_h5:=hp_p1 _ _ h5
  try simp only[NN,NT,LN,simprocAttr,DT]at e_h5
  conv=>arg 1;simp (disch:=first|exact Zd|fail) only[ZZ,d148_at,simprocAttr,c4_p1,c3_p1,b4_p1,b3_p1,nm_p1,h1'',h1',lm_ik h4,e_h5]
  refine J.ite (λh6=> ?_) (λh6=> ?_)
  ·have h6':x8=true:=h6
   refine J.some ?_
   simp (maxSteps:=20000000) (disch:=first|exact Zd|fail) only[ZZ,d148_at,simprocAttr,c4_p1,c3_p1,b4_p1,b3_p1,nm_p1,h1'',h1',lm_ik h4,e_h5,h6',FN]
  ·have h6':x8=false:=Bool.eq_false_iff.2 h6
   conv=>arg 1;simp (disch:=first|exact Zd|fail) only[ZZ,d148_at,simprocAttr,c4_p1,c3_p1,b4_p1,b3_p1,nm_p1,h1'',h1',lm_ik h4,e_h5,h6']
   refine J.eq ret_seq ?_
   conv=>arg 1;simp (disch:=first|exact Zd|fail) only[ZZ,d148_at,simprocAttr,c4_p1,c3_p1,b4_p1,b3_p1,nm_p1,h1'',h1',lm_ik h4,e_h5,h6']
   refine J.next (s:=wk .i64 (x4+1)) hn1 ?_ ?_
   ·exact Ze
   ·exact Zh
 ·have h1':=decide_eq_false h1
  have h1'':decide ((x1.length:Int)<=x4)=true:=decide_eq_true (by omega)
  conv=>arg 1;simp (disch:=first|exact Zd|fail) only[ZZ,d148_at,simprocAttr,c4_p1,c3_p1,b4_p1,b3_p1,nm_p1,h1'',h1']
  refine J.eq ret_seq ?_
  refine J.some ?_
  simp (maxSteps:=20000000) (disch:=first|exact Zd|fail) only[ZZ,d148_at,simprocAttr,c4_p1,c3_p1,b4_p1,b3_p1,nm_p1,h1'',h1',FN]
noncomputable def t148(fu:Nat)(x1:List Int)(p1:Int->Option Bool)(fv_p1:FuncId)(ca_p1:List AV):CallP:=orE fv_p1 (mkC (λ(t:Int)=>((.v (.int .i64 t))::ca_p1:List AV)) (λt=>p1 t) (λr=> .v (.bool r))) (noP)
theorem t148_ok(fu:Nat)(x1:List Int)(p1:Int->Option Bool)(fv_p1:FuncId)(ca_p1:List AV)(cap_p1:Capt ca_p1)(hp_p1: ∀ (y0:Int) r,p1 y0=some r->PureOK Tryz.prog fv_p1 ((.v (.int .i64 y0))::ca_p1) (.v (.bool r))):CpOK Tryz.prog (t148 fu x1 p1 fv_p1 ca_p1):=orE_ok (noP_ok) (mkC_ok (λt b h=>hp_p1 t b h))
theorem ok148(fu:Nat)(x1:List Int)(p1:Int→Option Bool)(fv_p1:FuncId)(ca_p1:List AV)(cap_p1:Capt ca_p1)(hp_p1: ∀ (y0:Int) r,p1 y0=some r→PureOK Tryz.prog fv_p1 ((.v (.int .i64 y0))::ca_p1) (.v (.bool r)))(r)(h:slices_IndexFunc_int fu x1 p1=some r):PureOK Tryz.prog 148 [.arr x1.length (lm (ik .i64) x1),.fn fv_p1 [] ca_p1] (e148 r):=
  pure_J mixed (cp:=t148 fu x1 p1 fv_p1 ca_p1) (t148_ok fu x1 p1 fv_p1 ca_p1 cap_p1 hp_p1) noI_ok i148 (w148 _ fu x1 p1 fv_p1 ca_p1 cap_p1 (λy0 r h=>orE_hit (mkC_at (a:=y0) (by intro a b h;first|(exact rfl)|(simp only[INJ,IJ]at h;first|exact h|(simp_all [Prod.ext_iff]))) h))) h
open Aw (d81)
def d81_at:=by have h:=tabL Aw.d81.eq_1;simp only[AllAt,Nat.zero_add,Nat.reduceAdd]at h;exact h
theorem i81:finfo Tryz.prog 81 d81=some ⟨bodyOf Tryz.f81,[.tmp 4],[4]⟩:=finfo_at Tryz.func81 rfl (by kernel_rfl) (by kernel_rfl)
def e81:Bool->AV:=λr=> .v (.bool r)
set_option maxHeartbeats 20000000 in
theorem w81(cp:CallP)(fu:Nat)(x1:List Int)(p1:Int→Option Bool)(fv_p1:FuncId)(ca_p1:List AV)(cap_p1:Capt ca_p1)(hp_p1: ∀ (y0:Int) r,p1 y0=some r→cp fv_p1 ((.v (.int .i64 y0))::ca_p1)=some (.v (.bool r)))(H148_0: ∀ (a0:List Int) r,slices_IndexFunc_int fu a0 p1=some r→cp 148 [.arr a0.length (lm (ik .i64) a0),.fn fv_p1 [] ca_p1]=some (.v (.int .i64 r))):J (go Tryz.prog noC cp noI 0 [] d81 fu (fin Tryz.prog [.tmp 4] [4]) (bodyOf Tryz.f81) (initE 0 [.arr x1.length (lm (ik .i64) x1),.fn fv_p1 [] ca_p1]) [] []) (slices_ContainsFunc_int fu x1 p1) e81:=by
 unfold slices_ContainsFunc_int e81
 have da:=d81_at
 have c4_p1:=λg=>(cap_p1.1 g).1;have c3_p1:=λg=>(cap_p1.1 g).2.1;have b4_p1:=λg=>(cap_p1.1 g).2.2.1;have b3_p1:=λg=>(cap_p1.1 g).2.2.2;have nm_p1:=cap_p1.2
 refine J.bind λx2 h1=> ?_
 have e_h1:=H148_0 _ _ h1
 try simp only[NN,NT,LN,simprocAttr,DT]at e_h1
 refine J.some ?_
 simp (maxSteps:=20000000) (disch:=first|exact Zd|fail) only[bodyOf,Tryz.f81,ZZ,d81_at,simprocAttr,c4_p1,c3_p1,b4_p1,b3_p1,nm_p1,e_h1,FN]
noncomputable def t81(fu:Nat)(x1:List Int)(p1:Int->Option Bool)(fv_p1:FuncId)(ca_p1:List AV):CallP:=orE 148 (mkC (λ(t:List Int)=>([.arr t.length (lm (ik .i64) t),.fn fv_p1 [] ca_p1]:List AV)) (λt=>slices_IndexFunc_int fu t p1) e148) (orE fv_p1 (mkC (λ(t:Int)=>((.v (.int .i64 t))::ca_p1:List AV)) (λt=>p1 t) (λr=> .v (.bool r))) (noP))
theorem t81_ok(fu:Nat)(x1:List Int)(p1:Int->Option Bool)(fv_p1:FuncId)(ca_p1:List AV)(cap_p1:Capt ca_p1)(hp_p1: ∀ (y0:Int) r,p1 y0=some r->PureOK Tryz.prog fv_p1 ((.v (.int .i64 y0))::ca_p1) (.v (.bool r))):CpOK Tryz.prog (t81 fu x1 p1 fv_p1 ca_p1):=orE_ok (orE_ok (noP_ok) (mkC_ok (λt b h=>hp_p1 t b h))) (mkC_ok (λt b h=>ok148 fu t p1 fv_p1 ca_p1 cap_p1 hp_p1 b h))
theorem ok81(fu:Nat)(x1:List Int)(p1:Int→Option Bool)(fv_p1:FuncId)(ca_p1:List AV)(cap_p1:Capt ca_p1)(hp_p1: ∀ (y0:Int) r,p1 y0=some r→PureOK Tryz.prog fv_p1 ((.v (.int .i64 y0))::ca_p1) (.v (.bool r)))(r)(h:slices_ContainsFunc_int fu x1 p1=some r):PureOK Tryz.prog 81 [.arr x1.length (lm (ik .i64) x1),.fn fv_p1 [] ca_p1] (e81 r):=
  pure_J mixed (cp:=t81 fu x1 p1 fv_p1 ca_p1) (t81_ok fu x1 p1 fv_p1 ca_p1 cap_p1 hp_p1) noI_ok i81 (w81 _ fu x1 p1 fv_p1 ca_p1 cap_p1 (λy0 r h=>orE_skip (λhfv=>mkC_none (by intro t h;simp at h)) (orE_hit (mkC_at (a:=y0) (by intro a b h;first|(exact rfl)|(simp only[INJ,IJ]at h;first|exact h|(simp_all [Prod.ext_iff]))) h))) (λa0 r h=>orE_hit (mkC_at (a:=a0) (by intro a b h;first|(exact rfl)|(simp only[INJ,IJ]at h;first|exact h|(simp_all [Prod.ext_iff]))) h))) h
open Aw (d82)
def d82_at:=by have h:=tabL Aw.d82.eq_1;simp only[AllAt,Nat.zero_add,Nat.reduceAdd]at h;exact h
theorem i82:finfo Tryz.prog 82 d82=some ⟨bodyOf Tryz.f82,[.tmp 2],[4]⟩:=finfo_at Tryz.func82 rfl (by kernel_rfl) (by kernel_rfl)
def e82:Bool->AV:=λr=> .v (.bool r)
set_option maxHeartbeats 20000000 in
theorem w82(cp:CallP)(fu:Nat)(x1:Int):J (go Tryz.prog noC cp noI 0 [] d82 fu (fin Tryz.prog [.tmp 2] [4]) (bodyOf Tryz.f82) (initE 0 [.v (.int .i64 x1)]) [] []) (shape_Size_1 fu x1) e82:=by
 unfold shape_Size_1 e82
 have da:=d82_at
 conv=>arg 1;simp only[bodyOf,Tryz.f82]
 have z0:=d82_at
 exact Wk
theorem ok82(fu:Nat)(x1:Int)(r)(h:shape_Size_1 fu x1=some r):PureOK Tryz.prog 82 [.v (.int .i64 x1)] (e82 r):=pureT mixed [] (ids:=[]) rfl (by decide) i82 (C:=noC) (ci:=λcp=>noI) (λcp ok=>noI_ok) (λcp H=>w82 cp fu x1) h
open Aw (d83)
def d83_at:=by have h:=tabL Aw.d83.eq_1;simp only[AllAt,Nat.zero_add,Nat.reduceAdd]at h;exact h
theorem i83:finfo Tryz.prog 83 d83=some ⟨bodyOf Tryz.f83,[.tmp 2],[4]⟩:=finfo_at Tryz.func83 rfl (by kernel_rfl) (by kernel_rfl)
def e83:Bool->AV:=λr=> .v (.bool r)
set_option maxHeartbeats 20000000 in
theorem w83(cp:CallP)(fu:Nat)(x1:Int):J (go Tryz.prog noC cp noI 0 [] d83 fu (fin Tryz.prog [.tmp 2] [4]) (bodyOf Tryz.f83) (initE 0 [.v (.int .i64 x1)]) [] []) (shape_Size_2 fu x1) e83:=by
 unfold shape_Size_2 e83
 have da:=d83_at
 conv=>arg 1;simp only[bodyOf,Tryz.f83]
 have z0:=d83_at
 exact Wk
theorem ok83(fu:Nat)(x1:Int)(r)(h:shape_Size_2 fu x1=some r):PureOK Tryz.prog 83 [.v (.int .i64 x1)] (e83 r):=pureT mixed [] (ids:=[]) rfl (by decide) i83 (C:=noC) (ci:=λcp=>noI) (λcp ok=>noI_ok) (λcp H=>w83 cp fu x1) h
open Aw (d149)
def d149_at:=by have h:=tabL Aw.d149.eq_1;simp only[AllAt,Nat.zero_add,Nat.reduceAdd]at h;exact h
theorem i149:finfo Tryz.prog 149 d149=some ⟨bodyOf Tryz.f149,[.tmp 4],[3]⟩:=finfo_at Tryz.func149 rfl (by kernel_rfl) (by kernel_rfl)
def e149:Int->AV:=λr=> .v (.int .i64 r)
def slices_Index_int.m1:LJ 1 4 Unit Int:=⟨λr s e=>[(0,er e 0),(1,er e 1),(7,er e 7),(8,.v (.int .i64 s))],λr s h=>[]⟩
set_option maxHeartbeats 20000000 in
open slices_Index_int in
theorem w149(cp:CallP)(fu:Nat)(x1:List Int)(x2:Int):J (go Tryz.prog noC cp noI 0 [] d149 fu (fin Tryz.prog [.tmp 4] [3]) (bodyOf Tryz.f149) (initE 0 [.arr x1.length (lm (ik .i64) x1),.v (.int .i64 x2)]) [] []) (slices_Index_int fu x1 x2) e149:=by
 unfold slices_Index_int e149
 have da:=d149_at
 conv=>arg 1;simp only[bodyOf,Tryz.f149]
 have z0:=d149_at
 exact Wk
theorem ok149(fu:Nat)(x1:List Int)(x2:Int)(r)(h:slices_Index_int fu x1 x2=some r):PureOK Tryz.prog 149 [.arr x1.length (lm (ik .i64) x1),.v (.int .i64 x2)] (e149 r):=pureT mixed [] (ids:=[]) rfl (by decide) i149 (C:=noC) (ci:=λcp=>noI) (λcp ok=>noI_ok) (λcp H=>w149 cp fu x1 x2) h
open Aw (d84)
def d84_at:=by have h:=tabL Aw.d84.eq_1;simp only[AllAt,Nat.zero_add,Nat.reduceAdd]at h;exact h
theorem i84:finfo Tryz.prog 84 d84=some ⟨bodyOf Tryz.f84,[.tmp 4],[4]⟩:=finfo_at Tryz.func84 rfl (by kernel_rfl) (by kernel_rfl)
def e84:Bool->AV:=λr=> .v (.bool r)
structure K149 (fu:Nat) (cp:CallP):Prop where
 ap: ∀ {a0:List Int} {a1:Int} {r},slices_Index_int fu a0 a1=some r->cp 149 [.arr a0.length (lm (ik .i64) a0),.v (.int .i64 a1)]=some (.v (.int .i64 r))
noncomputable def C149(fu:Nat):Cm Tryz.prog ((List Int)×Int) Int:=⟨149,λt=>[.arr t.1.length (lm (ik .i64) t.1),.v (.int .i64 t.2)],λt=>slices_Index_int fu t.1 t.2,e149,λt b h=>ok149 fu t.1 t.2 b h,Zi⟩
theorem u149{fu:Nat}{cp:CallP}(H:Hit cp (C149 fu).ct):K149 fu cp:=⟨λ {a0 a1 r} h=>(C149 fu).at H (a0,a1) r h⟩
set_option maxHeartbeats 20000000 in
theorem w84(cp:CallP)(fu:Nat)(x1:List Int)(x2:Int)(H1:K149 fu cp):J (go Tryz.prog noC cp noI 0 [] d84 fu (fin Tryz.prog [.tmp 4] [4]) (bodyOf Tryz.f84) (initE 0 [.arr x1.length (lm (ik .i64) x1),.v (.int .i64 x2)]) [] []) (slices_Contains_int fu x1 x2) e84:=by
 unfold slices_Contains_int e84
 have da:=d84_at
 conv=>arg 1;simp only[bodyOf,Tryz.f84]
 have z0:=d84_at
 exact Wk
theorem ok84(fu:Nat)(x1:List Int)(x2:Int)(r)(h:slices_Contains_int fu x1 x2=some r):PureOK Tryz.prog 84 [.arr x1.length (lm (ik .i64) x1),.v (.int .i64 x2)] (e84 r):=pureT mixed [(C149 fu).ct] (ids:=[149]) rfl (by decide) i84 (C:=noC) (ci:=λcp=>noI) (λcp ok=>noI_ok) (λcp H=>w84 cp fu x1 x2 (u149 H.1)) h
open Aw (d39)
def d39_at:=by have h:=tabL Aw.d39.eq_1;simp only[AllAt,Nat.zero_add,Nat.reduceAdd]at h;exact h
theorem i39:finfo Tryz.prog 39 d39=some ⟨bodyOf Tryz.f39,[.tmp 2,.tmp 3],[3,32]⟩:=finfo_at Tryz.func39 rfl (by kernel_rfl) (by kernel_rfl)
def e39:(Int×Int)->AV:=λr=> .tuple [.v (.int .i64 r.1),.v (.int .i64 r.2)]
set_option maxHeartbeats 20000000 in
theorem w39(cp:CallP)(fu:Nat)(x1:List Int)(H81_0: ∀ (a0:List Int) r,slices_ContainsFunc_int fu a0 (fun y0=>shape_Size_1 fu y0)=some r→cp 81 [.arr a0.length (lm (ik .i64) a0),.fn 82 [] []]=some (.v (.bool r)))(H81_1: ∀ (a0:List Int) r,slices_ContainsFunc_int fu a0 (fun y0=>shape_Size_2 fu y0)=some r→cp 81 [.arr a0.length (lm (ik .i64) a0),.fn 83 [] []]=some (.v (.bool r)))(H84_0: ∀ (a0:List Int) (a1:Int) r,slices_Contains_int fu a0 a1=some r→cp 84 [.arr a0.length (lm (ik .i64) a0),.v (.int .i64 a1)]=some (.v (.bool r))):J (go Tryz.prog noC cp noI 0 [] d39 fu (fin Tryz.prog [.tmp 2,.tmp 3] [3,32]) (bodyOf Tryz.f39) (initE 0 [.arr x1.length (lm (ik .i64) x1)]) [] []) (shape_Size fu x1) e39:=by
 unfold shape_Size e39
 have da:=d39_at
 conv=>arg 1;simp (disch:=first|exact Zd|fail) only[bodyOf,Tryz.f39,ZZ,d39_at,simprocAttr]
 refine J.eq go_seq ?_
 refine J.bind λx2 h1=> ?_
 have e_h1:=H81_0 _ _ h1
 try simp only[NN,NT,LN,simprocAttr,DT]at e_h1
 refine Jc ?_
 refine J.ite (λh2=> ?_) (λh2=> ?_)
 ·have h2':x2=true:=h2
  refine J.some ?_
  exact Js
 ·have h2':x2=false:=Bool.eq_false_iff.2 h2
  refine Jc ?_
  refine J.eq ret_seq ?_
  refine J.joinS (λ(t:Unit)=>([(0,.arr x1.length (lm (ik .i64) x1))],[])) (λt=>shape_Size.k1 fu x1) ?_ (λhj1=> ?_)
  ·rintro⟨⟩
   show J _ (shape_Size.k1 fu x1) _
   unfold shape_Size.k1
   refine J.eq go_seq ?_
   refine J.bind λx3 h3=> ?_
   have e_h3:=H84_0 _ _ _ h3
   try simp only[NN,NT,LN,simprocAttr,DT]at e_h3
   refine Jc ?_
   refine J.ite (λh4=> ?_) (λh4=> ?_)
   ·have h4':x3=true:=h4
    refine J.some ?_
    exact Js
   ·have h4':x3=false:=Bool.eq_false_iff.2 h4
    refine Jc ?_
    refine J.eq ret_seq ?_
    refine Jc ?_
    refine J.eq go_seq ?_
    refine Jc ?_
    unfold shape_Size.W1
    refine J.loop (λ(s:Int×Int)=>([(4,.v (.int .i64 s.1)),(18,.arr x1.length (lm (ik .i64) x1)),(19,.v (.int .i64 (x1.length:Int))),(20,.v (.int .i64 s.2))],[])) (λnext s=>shape_Size.L1 fu x1 (λx5 x6=>next (x5,x6)) s.1 s.2) (s0:=(1,0)) ?_ ?_ ?_
    ·exact Ze
    ·exact Zh
    rintro next k1 hn1 ⟨x5,x6⟩
    let nx1:Int->Int->Option (Int×Int):=(λx5 x6=>next (x5,x6))
    show J _ (shape_Size.L1 fu x1 nx1 x5 x6) _
    unfold shape_Size.L1
    refine Jc ?_
    refine J.eq go_seq ?_
    refine Jc ?_
    refine J.ite (λh5=> ?_) (λh5=> ?_)
    ·have h5':=decide_eq_true h5
     have h5'':decide ((x1.length:Int)<=x6)=false:=decide_eq_false (by omega)
     refine Jc ?_
     refine J.eq ret_seq ?_
     refine J.eq go_seq ?_
     refine J.at λx8 h6 h7 h8=> ?_
     conv=>arg 1;simp (disch:=first|exact Zd|fail) only[ZZ,d39_at,simprocAttr,e_h1,h2',e_h3,h4',h5'',h5',lm_ik h8]
     refine J.eq go_seq ?_
     refine J.chk λh9=> ?_
     conv=>arg 1;simp (disch:=first|exact Zd|fail) only[ZZ,d39_at,simprocAttr,e_h1,h2',e_h3,h4',h5'',h5',lm_ik h8]
     refine J.ite (λh10=> ?_) (λh10=> ?_)
     ·have h10':=decide_eq_true h10
      have h10'':decide (x8<=(wk .i64 (Int.tdiv 4096 x5)))=false:=decide_eq_false (by omega)
      refine J.some ?_
      simp (maxSteps:=20000000) (disch:=first|exact Zd|fail) only[ZZ,d39_at,simprocAttr,e_h1,h2',e_h3,h4',h5'',h5',lm_ik h8,h10'',h10',FN]
     ·have h10':=decide_eq_false h10
      have h10'':decide (x8<=(wk .i64 (Int.tdiv 4096 x5)))=true:=decide_eq_true (by omega)
      conv=>arg 1;simp (disch:=first|exact Zd|fail) only[ZZ,d39_at,simprocAttr,e_h1,h2',e_h3,h4',h5'',h5',lm_ik h8,h10'',h10']
      refine J.eq ret_seq ?_
      conv=>arg 1;simp (disch:=first|exact Zd|fail) only[ZZ,d39_at,simprocAttr,e_h1,h2',e_h3,h4',h5'',h5',lm_ik h8,h10'',h10']
      refine J.eq ret_seq ?_
      conv=>arg 1;simp (disch:=first|exact Zd|fail) only[ZZ,d39_at,simprocAttr,e_h1,h2',e_h3,h4',h5'',h5',lm_ik h8,h10'',h10']
      refine J.next (s:=(wk .i64 (x5*x8),wk .i64 (x6+1))) hn1 ?_ ?_
      ·exact Ze
      ·exact Zh
    ·have h5':=decide_eq_false h5
     have h5'':decide ((x1.length:Int)<=x6)=true:=decide_eq_true (by omega)
     refine Jc ?_
     refine J.eq ret_seq ?_
     refine J.some ?_
     exact Js
  ·refine J.hd jn_at ?_
   refine J.eq go_seq ?_
   refine Jc ?_
   refine J.ite (λh11=> ?_) (λh11=> ?_)
   ·have h11':=decide_eq_true h11
    have h11'':decide ((x1.length:Int)<=8)=false:=decide_eq_false (by omega)
    refine Jc ?_
    refine J.eq ret_seq ?_
    refine J.some ?_
    exact Js
   ·have h11':=decide_eq_false h11
    have h11'':decide ((x1.length:Int)<=8)=true:=decide_eq_true (by omega)
    refine J.bind λx9 h12=> ?_
    have e_h12:=H81_1 _ _ h12
    try simp only[NN,NT,LN,simprocAttr,DT]at e_h12
    refine Jc ?_
    refine J.eq ret_seq ?_
    refine Jc ?_
    refine J.ite (λh13=> ?_) (λh13=> ?_)
    ·have h13':x9=true:=h13
     refine J.some ?_
     exact Js
    ·have h13':x9=false:=Bool.eq_false_iff.2 h13
     refine Jc ?_
     refine J.jmp (t:=()) hj1 ?_ ?_
     ·exact Ze
     ·exact Zh
noncomputable def t39(fu:Nat):CallP:=orE 81 (mkC (λ(t:List Int)=>([.arr t.length (lm (ik .i64) t),.fn 82 [] []]:List AV)) (λt=>slices_ContainsFunc_int fu t (λy0=>shape_Size_1 fu y0)) e81) (orE 81 (mkC (λ(t:List Int)=>([.arr t.length (lm (ik .i64) t),.fn 83 [] []]:List AV)) (λt=>slices_ContainsFunc_int fu t (λy0=>shape_Size_2 fu y0)) e81) (orE 84 (mkC (λ(t:(List Int)×Int)=>([.arr t.1.length (lm (ik .i64) t.1),.v (.int .i64 t.2)]:List AV)) (λt=>slices_Contains_int fu t.1 t.2) e84) (noP)))
theorem t39_ok(fu:Nat):CpOK Tryz.prog (t39 fu):=orE_ok (orE_ok (orE_ok (noP_ok) (mkC_ok (λt b h=>ok84 fu t.1 t.2 b h))) (mkC_ok (λt b h=>ok81 fu t (λy0=>shape_Size_2 fu y0) 83 [] Capt.nil (λy0 r h=>ok83 fu y0 r h) b h))) (mkC_ok (λt b h=>ok81 fu t (λy0=>shape_Size_1 fu y0) 82 [] Capt.nil (λy0 r h=>ok82 fu y0 r h) b h))
theorem ok39(fu:Nat)(x1:List Int)(r)(h:shape_Size fu x1=some r):PureOK Tryz.prog 39 [.arr x1.length (lm (ik .i64) x1)] (e39 r):=
  pure_J mixed (cp:=t39 fu) (t39_ok fu) noI_ok i39 (w39 _ fu x1 (λa0 r h=>orE_hit (mkC_at (a:=a0) (by intro a b h;first|(exact rfl)|(simp only[INJ,IJ]at h;first|exact h|(simp_all [Prod.ext_iff]))) h)) (λa0 r h=>orE_next (mkC_none (by intro t h;simp at h)) (orE_hit (mkC_at (a:=a0) (by intro a b h;first|(exact rfl)|(simp only[INJ,IJ]at h;first|exact h|(simp_all [Prod.ext_iff]))) h))) (λa0 a1 r h=>orE_miss (by decide) (orE_miss (by decide) (orE_hit (mkC_at (a:=(a0,a1)) (by intro a b h;first|(exact rfl)|(simp only[INJ,IJ]at h;first|exact h|(simp_all [Prod.ext_iff]))) h))))) h
open Aw (d23)
def d23_at:=by have h:=tabL Aw.d23.eq_1;simp only[AllAt,Nat.zero_add,Nat.reduceAdd]at h;exact h
theorem i23:finfo Tryz.prog 23 d23=some ⟨bodyOf Tryz.f23,[.tmp 2],[32]⟩:=finfo_at Tryz.func23 rfl (by kernel_rfl) (by kernel_rfl)
def e23:Int->AV:=λr=> .v (.int .i64 r)
structure K38 (fu:Nat) (cp:CallP):Prop where
 ap: ∀ {a0:Int} {r},tens_known fu a0=some r->cp 38 [.v (.int .i64 a0)]=some (.v (.bool r))
noncomputable def C38(fu:Nat):Cm Tryz.prog Int Bool:=⟨38,λt=>[.v (.int .i64 t)],λt=>tens_known fu t,e38,λt b h=>ok38 fu t b h,Zi⟩
theorem u38{fu:Nat}{cp:CallP}(H:Hit cp (C38 fu).ct):K38 fu cp:=⟨λ {a0 r} h=>(C38 fu).at H a0 r h⟩
structure K39 (fu:Nat) (cp:CallP):Prop where
 ap: ∀ {a0:List Int} {r},shape_Size fu a0=some r->cp 39 [.arr a0.length (lm (ik .i64) a0)]=some (.tuple [.v (.int .i64 r.1),.v (.int .i64 r.2)])
noncomputable def C39(fu:Nat):Cm Tryz.prog (List Int) (Int×Int):=⟨39,λt=>[.arr t.length (lm (ik .i64) t)],λt=>shape_Size fu t,e39,λt b h=>ok39 fu t b h,Zi⟩
theorem u39{fu:Nat}{cp:CallP}(H:Hit cp (C39 fu).ct):K39 fu cp:=⟨λ {a0 r} h=>(C39 fu).at H a0 r h⟩
def tens_Check.j1:LJ 1 24 Unit Int:=⟨λr t e=>[(1,er e 1),(3,er e 3),(5,.v (.int .i64 t))],λr t h=>[((0,1,0),hr h (0,1,0))]⟩
set_option maxHeartbeats 20000000 in
open tens_Check in
theorem w23(cp:CallP)(fu:Nat)(x1:T_Tensor)(H1:K38 fu cp)(H2:K39 fu cp):J (go Tryz.prog noC cp noI 0 [] d23 fu (fin Tryz.prog [.tmp 2] [32]) (bodyOf Tryz.f23) (initE 0 [.agg (c_T_Tensor x1)]) [] []) (tens_Check fu x1) e23:=by
 unfold tens_Check e23
 have da:=d23_at
 conv=>arg 1;simp only[bodyOf,Tryz.f23]
 have z0:=d23_at
 exact Wk
theorem ok23(fu:Nat)(x1:T_Tensor)(r)(h:tens_Check fu x1=some r):PureOK Tryz.prog 23 [.agg (c_T_Tensor x1)] (e23 r):=pureT mixed [(C38 fu).ct,(C39 fu).ct] (ids:=[38,39]) rfl (by decide) i23 (C:=noC) (ci:=λcp=>noI) (λcp ok=>noI_ok) (λcp H=>w23 cp fu x1 (u38 H.1) (u39 H.2.1)) h
open Aw (d85)
def d85_at:=by have h:=tabL Aw.d85.eq_1;simp only[AllAt,Nat.zero_add,Nat.reduceAdd]at h;exact h
theorem i85:finfo Tryz.prog 85 d85=some ⟨bodyOf Tryz.f85,[.tmp 2],[27]⟩:=finfo_at Tryz.func85 rfl (by kernel_rfl) (by kernel_rfl)
def e85:(List Int)->AV:=λr=> .fresh 1 r.length (lm (ik .i64) r)
set_option maxHeartbeats 20000000 in
theorem w85(cp:CallP)(fu:Nat)(x1:List Int):J (go Tryz.prog noC cp noI 0 [] d85 fu (fin Tryz.prog [.tmp 2] [27]) (bodyOf Tryz.f85) (initE 0 [.arr x1.length (lm (ik .i64) x1)]) [] []) (tens_own_int fu x1) e85:=by
 unfold tens_own_int e85
 have da:=d85_at
 conv=>arg 1;simp only[bodyOf,Tryz.f85]
 have z0:=d85_at
 exact Wk
theorem ok85(fu:Nat)(x1:List Int)(r)(h:tens_own_int fu x1=some r):PureOK Tryz.prog 85 [.arr x1.length (lm (ik .i64) x1)] (e85 r):=pureT mixed [] (ids:=[]) rfl (by decide) i85 (C:=noC) (ci:=λcp=>noI) (λcp ok=>noI_ok) (λcp H=>w85 cp fu x1) h
open Aw (d86)
def d86_at:=by have h:=tabL Aw.d86.eq_1;simp only[AllAt,Nat.zero_add,Nat.reduceAdd]at h;exact h
theorem i86:finfo Tryz.prog 86 d86=some ⟨bodyOf Tryz.f86,[.tmp 2],[22]⟩:=finfo_at Tryz.func86 rfl (by kernel_rfl) (by kernel_rfl)
def e86:(List Int)->AV:=λr=> .fresh 1 r.length (lm (ik .u32) r)
set_option maxHeartbeats 20000000 in
theorem w86(cp:CallP)(fu:Nat)(x1:List Int):J (go Tryz.prog noC cp noI 0 [] d86 fu (fin Tryz.prog [.tmp 2] [22]) (bodyOf Tryz.f86) (initE 0 [.arr x1.length (lm (ik .u32) x1)]) [] []) (tens_own_uint32 fu x1) e86:=by
 unfold tens_own_uint32 e86
 have da:=d86_at
 conv=>arg 1;simp only[bodyOf,Tryz.f86]
 have z0:=d86_at
 exact Wk
theorem ok86(fu:Nat)(x1:List Int)(r)(h:tens_own_uint32 fu x1=some r):PureOK Tryz.prog 86 [.arr x1.length (lm (ik .u32) x1)] (e86 r):=pureT mixed [] (ids:=[]) rfl (by decide) i86 (C:=noC) (ci:=λcp=>noI) (λcp ok=>noI_ok) (λcp H=>w86 cp fu x1) h
open Aw (d87)
def d87_at:=by have h:=tabL Aw.d87.eq_1;simp only[AllAt,Nat.zero_add,Nat.reduceAdd]at h;exact h
theorem i87:finfo Tryz.prog 87 d87=some ⟨bodyOf Tryz.f87,[.tmp 2],[28]⟩:=finfo_at Tryz.func87 rfl (by kernel_rfl) (by kernel_rfl)
def e87:(List Int)->AV:=λr=> .fresh 1 r.length (lm (ik .i64) r)
set_option maxHeartbeats 20000000 in
theorem w87(cp:CallP)(fu:Nat)(x1:List Int):J (go Tryz.prog noC cp noI 0 [] d87 fu (fin Tryz.prog [.tmp 2] [28]) (bodyOf Tryz.f87) (initE 0 [.arr x1.length (lm (ik .i64) x1)]) [] []) (tens_own_int64 fu x1) e87:=by
 unfold tens_own_int64 e87
 have da:=d87_at
 conv=>arg 1;simp only[bodyOf,Tryz.f87]
 have z0:=d87_at
 exact Wk
theorem ok87(fu:Nat)(x1:List Int)(r)(h:tens_own_int64 fu x1=some r):PureOK Tryz.prog 87 [.arr x1.length (lm (ik .i64) x1)] (e87 r):=pureT mixed [] (ids:=[]) rfl (by decide) i87 (C:=noC) (ci:=λcp=>noI) (λcp ok=>noI_ok) (λcp H=>w87 cp fu x1) h
open Aw (d88)
def d88_at:=by have h:=tabL Aw.d88.eq_1;simp only[AllAt,Nat.zero_add,Nat.reduceAdd]at h;exact h
theorem i88:finfo Tryz.prog 88 d88=some ⟨bodyOf Tryz.f88,[.tmp 2],[29]⟩:=finfo_at Tryz.func88 rfl (by kernel_rfl) (by kernel_rfl)
def e88:(List Bool)->AV:=λr=> .fresh 1 r.length (lm (bk) r)
set_option maxHeartbeats 20000000 in
theorem w88(cp:CallP)(fu:Nat)(x1:List Bool):J (go Tryz.prog noC cp noI 0 [] d88 fu (fin Tryz.prog [.tmp 2] [29]) (bodyOf Tryz.f88) (initE 0 [.arr x1.length (lm (bk) x1)]) [] []) (tens_own_bool fu x1) e88:=by
 unfold tens_own_bool e88
 have da:=d88_at
 conv=>arg 1;simp only[bodyOf,Tryz.f88]
 have z0:=d88_at
 exact Wk
theorem ok88(fu:Nat)(x1:List Bool)(r)(h:tens_own_bool fu x1=some r):PureOK Tryz.prog 88 [.arr x1.length (lm (bk) x1)] (e88 r):=pureT mixed [] (ids:=[]) rfl (by decide) i88 (C:=noC) (ci:=λcp=>noI) (λcp ok=>noI_ok) (λcp H=>w88 cp fu x1) h
open Aw (d40)
def d40_at:=by have h:=tabL Aw.d40.eq_1;simp only[AllAt,Nat.zero_add,Nat.reduceAdd]at h;exact h
theorem i40:finfo Tryz.prog 40 d40=some ⟨bodyOf Tryz.f40,[.cell 2 31],[31]⟩:=finfo_at Tryz.func40 rfl (by kernel_rfl) (by kernel_rfl)
def e40:T_Tensor->AV:=λr=> .agg [.v (.int .i64 r.fType),.fresh 1 r.fDims.length (lm (ik .i64) r.fDims),.fresh 1 r.fF.length (lm (ik .u32) r.fF),.fresh 1 r.fI.length (lm (ik .i64) r.fI),.fresh 1 r.fB.length (lm (bk) r.fB)]
structure K85 (fu:Nat) (cp:CallP):Prop where
 ap: ∀ {a0:List Int} {r},tens_own_int fu a0=some r->cp 85 [.arr a0.length (lm (ik .i64) a0)]=some (.fresh 1 r.length (lm (ik .i64) r))
noncomputable def C85(fu:Nat):Cm Tryz.prog (List Int) (List Int):=⟨85,λt=>[.arr t.length (lm (ik .i64) t)],λt=>tens_own_int fu t,e85,λt b h=>ok85 fu t b h,Zi⟩
theorem u85{fu:Nat}{cp:CallP}(H:Hit cp (C85 fu).ct):K85 fu cp:=⟨λ {a0 r} h=>(C85 fu).at H a0 r h⟩
structure K86 (fu:Nat) (cp:CallP):Prop where
 ap: ∀ {a0:List Int} {r},tens_own_uint32 fu a0=some r->cp 86 [.arr a0.length (lm (ik .u32) a0)]=some (.fresh 1 r.length (lm (ik .u32) r))
noncomputable def C86(fu:Nat):Cm Tryz.prog (List Int) (List Int):=⟨86,λt=>[.arr t.length (lm (ik .u32) t)],λt=>tens_own_uint32 fu t,e86,λt b h=>ok86 fu t b h,Zi⟩
theorem u86{fu:Nat}{cp:CallP}(H:Hit cp (C86 fu).ct):K86 fu cp:=⟨λ {a0 r} h=>(C86 fu).at H a0 r h⟩
structure K87 (fu:Nat) (cp:CallP):Prop where
 ap: ∀ {a0:List Int} {r},tens_own_int64 fu a0=some r->cp 87 [.arr a0.length (lm (ik .i64) a0)]=some (.fresh 1 r.length (lm (ik .i64) r))
noncomputable def C87(fu:Nat):Cm Tryz.prog (List Int) (List Int):=⟨87,λt=>[.arr t.length (lm (ik .i64) t)],λt=>tens_own_int64 fu t,e87,λt b h=>ok87 fu t b h,Zi⟩
theorem u87{fu:Nat}{cp:CallP}(H:Hit cp (C87 fu).ct):K87 fu cp:=⟨λ {a0 r} h=>(C87 fu).at H a0 r h⟩
structure K88 (fu:Nat) (cp:CallP):Prop where
 ap: ∀ {a0:List Bool} {r},tens_own_bool fu a0=some r->cp 88 [.arr a0.length (lm (bk) a0)]=some (.fresh 1 r.length (lm (bk) r))
noncomputable def C88(fu:Nat):Cm Tryz.prog (List Bool) (List Bool):=⟨88,λt=>[.arr t.length (lm (bk) t)],λt=>tens_own_bool fu t,e88,λt b h=>ok88 fu t b h,Zi⟩
theorem u88{fu:Nat}{cp:CallP}(H:Hit cp (C88 fu).ct):K88 fu cp:=⟨λ {a0 r} h=>(C88 fu).at H a0 r h⟩
set_option maxHeartbeats 20000000 in
theorem w40(cp:CallP)(fu:Nat)(x1:T_Tensor)(H1:K85 fu cp)(H2:K86 fu cp)(H3:K87 fu cp)(H4:K88 fu cp):J (go Tryz.prog noC cp noI 0 [] d40 fu (fin Tryz.prog [.cell 2 31] [31]) (bodyOf Tryz.f40) (initE 0 [.agg (c_T_Tensor x1)]) [] []) (tens_Copy fu x1) e40:=by
 unfold tens_Copy e40
 have da:=d40_at
 conv=>arg 1;simp only[bodyOf,Tryz.f40]
 have z0:=d40_at
 exact Wk
theorem ok40(fu:Nat)(x1:T_Tensor)(r)(h:tens_Copy fu x1=some r):PureOK Tryz.prog 40 [.agg (c_T_Tensor x1)] (e40 r):=pureT mixed [(C85 fu).ct,(C86 fu).ct,(C87 fu).ct,(C88 fu).ct] (ids:=[85,86,87,88]) rfl (by decide) i40 (C:=noC) (ci:=λcp=>noI) (λcp ok=>noI_ok) (λcp H=>w40 cp fu x1 (u85 H.1) (u86 H.2.1) (u87 H.2.2.1) (u88 H.2.2.2.1)) h
open Aw (d150)
def d150_at:=by have h:=tabL Aw.d150.eq_1;simp only[AllAt,Nat.zero_add,Nat.reduceAdd]at h;exact h
theorem i150:finfo Tryz.prog 150 d150=some ⟨bodyOf Tryz.f150,[.tmp 2],[24]⟩:=finfo_at Tryz.func150 rfl (by kernel_rfl) (by kernel_rfl)
def e150:Int->AV:=λr=> .v (.int .u32 r)
set_option maxHeartbeats 20000000 in
theorem w150(cp:CallP)(fu:Nat)(x1:Int):J (go Tryz.prog noC cp noI 0 [] d150 fu (fin Tryz.prog [.tmp 2] [24]) (bodyOf Tryz.f150) (initE 0 [.v (.int .u32 x1)]) [] []) (soft_Abs fu x1) e150:=by
 unfold soft_Abs e150
 have da:=d150_at
 conv=>arg 1;simp only[bodyOf,Tryz.f150]
 have z0:=d150_at
 exact Wk
theorem ok150(fu:Nat)(x1:Int)(r)(h:soft_Abs fu x1=some r):PureOK Tryz.prog 150 [.v (.int .u32 x1)] (e150 r):=pureT mixed [] (ids:=[]) rfl (by decide) i150 (C:=noC) (ci:=λcp=>noI) (λcp ok=>noI_ok) (λcp H=>w150 cp fu x1) h
open Aw (d89)
def d89_at:=by have h:=tabL Aw.d89.eq_1;simp only[AllAt,Nat.zero_add,Nat.reduceAdd]at h;exact h
theorem i89:finfo Tryz.prog 89 d89=some ⟨bodyOf Tryz.f89,[.tmp 2],[4]⟩:=finfo_at Tryz.func89 rfl (by kernel_rfl) (by kernel_rfl)
def e89:Bool->AV:=λr=> .v (.bool r)
structure K150 (fu:Nat) (cp:CallP):Prop where
 ap: ∀ {a0:Int} {r},soft_Abs fu a0=some r->cp 150 [.v (.int .u32 a0)]=some (.v (.int .u32 r))
noncomputable def C150(fu:Nat):Cm Tryz.prog Int Int:=⟨150,λt=>[.v (.int .u32 t)],λt=>soft_Abs fu t,e150,λt b h=>ok150 fu t b h,Zi⟩
theorem u150{fu:Nat}{cp:CallP}(H:Hit cp (C150 fu).ct):K150 fu cp:=⟨λ {a0 r} h=>(C150 fu).at H a0 r h⟩
set_option maxHeartbeats 20000000 in
theorem w89(cp:CallP)(fu:Nat)(x1:Int)(H1:K150 fu cp):J (go Tryz.prog noC cp noI 0 [] d89 fu (fin Tryz.prog [.tmp 2] [4]) (bodyOf Tryz.f89) (initE 0 [.v (.int .u32 x1)]) [] []) (soft_NaN fu x1) e89:=by
 unfold soft_NaN e89
 have da:=d89_at
 conv=>arg 1;simp only[bodyOf,Tryz.f89]
 have z0:=d89_at
 exact Wk
theorem ok89(fu:Nat)(x1:Int)(r)(h:soft_NaN fu x1=some r):PureOK Tryz.prog 89 [.v (.int .u32 x1)] (e89 r):=pureT mixed [(C150 fu).ct] (ids:=[150]) rfl (by decide) i89 (C:=noC) (ci:=λcp=>noI) (λcp ok=>noI_ok) (λcp H=>w89 cp fu x1 (u150 H.1)) h
open Aw (d41)
def d41_at:=by have h:=tabL Aw.d41.eq_1;simp only[AllAt,Nat.zero_add,Nat.reduceAdd]at h;exact h
theorem i41:finfo Tryz.prog 41 d41=some ⟨bodyOf Tryz.f41,[.tmp 2],[24]⟩:=finfo_at Tryz.func41 rfl (by kernel_rfl) (by kernel_rfl)
def e41:Int->AV:=λr=> .v (.int .u32 r)
structure K89 (fu:Nat) (cp:CallP):Prop where
 ap: ∀ {a0:Int} {r},soft_NaN fu a0=some r->cp 89 [.v (.int .u32 a0)]=some (.v (.bool r))
noncomputable def C89(fu:Nat):Cm Tryz.prog Int Bool:=⟨89,λt=>[.v (.int .u32 t)],λt=>soft_NaN fu t,e89,λt b h=>ok89 fu t b h,Zi⟩
theorem u89{fu:Nat}{cp:CallP}(H:Hit cp (C89 fu).ct):K89 fu cp:=⟨λ {a0 r} h=>(C89 fu).at H a0 r h⟩
set_option maxHeartbeats 20000000 in
theorem w41(cp:CallP)(fu:Nat)(x1:Int)(H1:K89 fu cp):J (go Tryz.prog noC cp noI 0 [] d41 fu (fin Tryz.prog [.tmp 2] [24]) (bodyOf Tryz.f41) (initE 0 [.v (.int .u32 x1)]) [] []) (soft_Canon fu x1) e41:=by
 unfold soft_Canon e41
 have da:=d41_at
 conv=>arg 1;simp only[bodyOf,Tryz.f41]
 have z0:=d41_at
 exact Wk
theorem ok41(fu:Nat)(x1:Int)(r)(h:soft_Canon fu x1=some r):PureOK Tryz.prog 41 [.v (.int .u32 x1)] (e41 r):=pureT mixed [(C89 fu).ct] (ids:=[89]) rfl (by decide) i41 (C:=noC) (ci:=λcp=>noI) (λcp ok=>noI_ok) (λcp H=>w41 cp fu x1 (u89 H.1)) h
open Aw (d24)
def d24_at:=by have h:=tabL Aw.d24.eq_1;simp only[AllAt,Nat.zero_add,Nat.reduceAdd]at h;exact h
theorem i24:finfo Tryz.prog 24 d24=some ⟨bodyOf Tryz.f24,[.cell 2 31],[31]⟩:=finfo_at Tryz.func24 rfl (by kernel_rfl) (by kernel_rfl)
def e24:T_Tensor->AV:=λr=> .agg [.v (.int .i64 r.fType),.fresh 1 r.fDims.length (lm (ik .i64) r.fDims),.fresh 1 r.fF.length (lm (ik .u32) r.fF),.fresh 1 r.fI.length (lm (ik .i64) r.fI),.fresh 1 r.fB.length (lm (bk) r.fB)]
structure K40 (fu:Nat) (cp:CallP):Prop where
 ap: ∀ {a0:T_Tensor} {r},tens_Copy fu a0=some r->cp 40 [.agg (c_T_Tensor a0)]=some (.agg [.v (.int .i64 r.fType),.fresh 1 r.fDims.length (lm (ik .i64) r.fDims),.fresh 1 r.fF.length (lm (ik .u32) r.fF),.fresh 1 r.fI.length (lm (ik .i64) r.fI),.fresh 1 r.fB.length (lm (bk) r.fB)])
noncomputable def C40(fu:Nat):Cm Tryz.prog T_Tensor T_Tensor:=⟨40,λt=>[.agg (c_T_Tensor t)],λt=>tens_Copy fu t,e40,λt b h=>ok40 fu t b h,Zi⟩
theorem u40{fu:Nat}{cp:CallP}(H:Hit cp (C40 fu).ct):K40 fu cp:=⟨λ {a0 r} h=>(C40 fu).at H a0 r h⟩
structure K41 (fu:Nat) (cp:CallP):Prop where
 ap: ∀ {a0:Int} {r},soft_Canon fu a0=some r->cp 41 [.v (.int .u32 a0)]=some (.v (.int .u32 r))
noncomputable def C41(fu:Nat):Cm Tryz.prog Int Int:=⟨41,λt=>[.v (.int .u32 t)],λt=>soft_Canon fu t,e41,λt b h=>ok41 fu t b h,Zi⟩
theorem u41{fu:Nat}{cp:CallP}(H:Hit cp (C41 fu).ct):K41 fu cp:=⟨λ {a0 r} h=>(C41 fu).at H a0 r h⟩
def tens_Canon.m1:LJ 1 6 Unit ((List Int)×Int):=⟨λr s e=>[(2,er e 2),(3,er e 3),(9,.own (0,7,1) 0 s.1.length s.1.length),(10,er e 10),(11,.v (.int .i64 s.2))],λr s h=>[((0,2,0),hr h (0,2,0)),((0,7,0),hr h (0,7,0)),((0,7,1),.sl true true 1 s.1.length (lm (ik .u32) s.1)),((0,7,2),hr h (0,7,2)),((0,7,3),hr h (0,7,3)),((0,3,0),bs (hr h (0,3,0)) 2 (.own (0,7,1) 0 s.1.length s.1.length))]⟩
set_option maxHeartbeats 20000000 in
open tens_Canon in
theorem w24(cp:CallP)(fu:Nat)(x1:T_Tensor)(H1:K40 fu cp)(H2:K41 fu cp):J (go Tryz.prog noC cp noI 0 [] d24 fu (fin Tryz.prog [.cell 2 31] [31]) (bodyOf Tryz.f24) (initE 0 [.agg (c_T_Tensor x1)]) [] []) (tens_Canon fu x1) e24:=by
 unfold tens_Canon e24
 have da:=d24_at
 conv=>arg 1;simp only[bodyOf,Tryz.f24]
 have z0:=d24_at
 exact Wk
theorem ok24(fu:Nat)(x1:T_Tensor)(r)(h:tens_Canon fu x1=some r):PureOK Tryz.prog 24 [.agg (c_T_Tensor x1)] (e24 r):=pureT mixed [(C40 fu).ct,(C41 fu).ct] (ids:=[40,41]) rfl (by decide) i24 (C:=noC) (ci:=λcp=>noI) (λcp ok=>noI_ok) (λcp H=>w24 cp fu x1 (u40 H.1) (u41 H.2.1)) h
end Go.Av
