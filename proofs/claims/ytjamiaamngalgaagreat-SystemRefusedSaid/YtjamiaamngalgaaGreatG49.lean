/-
  Parts: The library's laws on ma. No conditions beyond those of the statement.
-/
import Derived.Shelf.SlIterI.Nil
import Derived.Shelf.SortM.Plain
import Derived.Shelf.SortM.SortNone
import Derived.Ground.GgzProg
import Derived.Ground.SlgmProg
import Derived.Test.YtjamiaamngalgaaGreatProg
set_option linter.unusedVariables false
set_option linter.unusedSimpArgs false
set_option maxRecDepth 1000000
set_option maxHeartbeats 4000000
namespace Go.Proofs.YtjamiaamngalgaaGreat
open Go.Shelf
def Zgb:Go.Shelf.Ren:=⟨fun | 7=> 124 | 10=> 179 | n=> n,fun | 23=> 210 | 26=> 3 | 3=> 23 | 28=> 245 | 0=> 0 | 27=> 244 | 33=> 267 | 4=> 4 | n=> n,fun | n=> n⟩
theorem Zuj:Go.Proofs.SlLaysZI.n7 Tryz.prog Zgb:= {
 mixed:=by kernel_rfl
 f7:=⟨Tryz.f124.name,by decide,Tryz.func124.trans (congrArg some (by kernel_rfl))⟩
 f10:=⟨Tryz.f179.name,by decide,Tryz.func179.trans (congrArg some (by kernel_rfl))⟩
 t0:=Tryz.underlying0
 a0:=Tryz.isAgg0
 z0:=Tryz.sizeOf0
 v0:=Tryz.zeroValue0
 t4:=Tryz.underlying4
 a4:=Tryz.isAgg4
 z4:=Tryz.sizeOf4
 v4:=Tryz.zeroValue4
 t23:=Tryz.underlying210
 a23:=Tryz.isAgg210
 z23:=Tryz.sizeOf210
 v23:=Tryz.zeroValue210
 t26:=Tryz.underlying3
 a26:=Tryz.isAgg3
 z26:=Tryz.sizeOf3
 v26:=Tryz.zeroValue3
 t27:=Tryz.underlying244
 a27:=Tryz.isAgg244
 z27:=Tryz.sizeOf244
 v27:=Tryz.zeroValue244
 t28:=Tryz.underlying245
 a28:=Tryz.isAgg245
 z28:=Tryz.sizeOf245
 v28:=Tryz.zeroValue245
 t33:=Tryz.underlying267
 a33:=Tryz.isAgg267
 z33:=Tryz.sizeOf267
 v33:=Tryz.zeroValue267}
def Zdw:Go.Shelf.Ren:=⟨fun | 6=> 123 | 8=> 177 | 9=> 178 | 11=> 220 | 13=> 207 | 12=> 221 | 23=> 260 | 24=> 261 | 14=> 275 | 15=> 276 | 16=> 277 | 17=> 278 | 18=> 279 | 19=> 280 | 20=> 281 | 21=> 282 | 22=> 283 | 25=> 313 | 26=> 305 | 27=> 306 | 28=> 314 | 29=> 315 | 30=> 316 | 31=> 326 | n=> n,fun | 26=> 3 | 28=> 245 | 24=> 22 | 0=> 0 | 3=> 3 | 37=> 205 | 48=> 401 | 50=> 23 | 4=> 4 | 40=> 394 | 39=> 393 | 45=> 308 | 5=> 5 | 9=> 9 | 51=> 450 | 55=> 453 | 57=> 480 | 58=> 83 | 33=> 267 | n=> n,fun | n=> n⟩
theorem Zr5:Go.Proofs.SlLaysZI.n6 Tryz.prog Zdw:= {
 mixed:=by kernel_rfl
 f6:=⟨Tryz.f123.name,by decide,Tryz.func123.trans (congrArg some (by kernel_rfl))⟩
 f8:=⟨Tryz.f177.name,by decide,Tryz.func177.trans (congrArg some (by kernel_rfl))⟩
 f11:=⟨Tryz.f220.name,by decide,Tryz.func220.trans (congrArg some (by kernel_rfl))⟩
 t0:=Tryz.underlying0
 a0:=Tryz.isAgg0
 z0:=Tryz.sizeOf0
 v0:=Tryz.zeroValue0
 t24:=Tryz.underlying22
 a24:=Tryz.isAgg22
 z24:=Tryz.sizeOf22
 v24:=Tryz.zeroValue22
 t26:=Tryz.underlying3
 a26:=Tryz.isAgg3
 z26:=Tryz.sizeOf3
 v26:=Tryz.zeroValue3
 t28:=Tryz.underlying245
 a28:=Tryz.isAgg245
 z28:=Tryz.sizeOf245
 v28:=Tryz.zeroValue245
 i26:=by kernel_rfl}
def Zkg:Go.Shelf.Ren:=⟨fun | 5=> 178 | 8=> 207 | 7=> 221 | 19=> 260 | 20=> 261 | 10=> 275 | 11=> 276 | 12=> 277 | 13=> 278 | 14=> 279 | 15=> 280 | 16=> 281 | 17=> 282 | 18=> 283 | 30=> 313 | 31=> 305 | 32=> 306 | 33=> 314 | 34=> 315 | 35=> 316 | 40=> 326 | n=> n,fun | 23=> 22 | 25=> 3 | 3=> 3 | 32=> 205 | 22=> 22 | 0=> 0 | 44=> 401 | 46=> 23 | 4=> 4 | 36=> 394 | 35=> 393 | 41=> 308 | 5=> 5 | 9=> 9 | 53=> 450 | 57=> 453 | 63=> 480 | 64=> 83 | n=> n,fun | n=> n⟩
theorem Ztw:Go.Proofs.SlLaysM.n5 Tryz.prog Zkg:= {
 mixed:=by kernel_rfl
 f5:=⟨Tryz.f178.name,by decide,Tryz.func178.trans (congrArg some (by kernel_rfl))⟩
 f7:=⟨Tryz.f221.name,by decide,Tryz.func221.trans (congrArg some (by kernel_rfl))⟩
 f8:=Tryz.func207.trans (congrArg some (by kernel_rfl))
 f10:=⟨Tryz.f275.name,by decide,Tryz.func275.trans (congrArg some (by kernel_rfl))⟩
 f11:=⟨Tryz.f276.name,by decide,Tryz.func276.trans (congrArg some (by kernel_rfl))⟩
 f12:=⟨Tryz.f277.name,by decide,Tryz.func277.trans (congrArg some (by kernel_rfl))⟩
 f13:=⟨Tryz.f278.name,by decide,Tryz.func278.trans (congrArg some (by kernel_rfl))⟩
 f14:=⟨Tryz.f279.name,by decide,Tryz.func279.trans (congrArg some (by kernel_rfl))⟩
 f15:=⟨Tryz.f280.name,by decide,Tryz.func280.trans (congrArg some (by kernel_rfl))⟩
 f16:=⟨Tryz.f281.name,by decide,Tryz.func281.trans (congrArg some (by kernel_rfl))⟩
 f17:=⟨Tryz.f282.name,by decide,Tryz.func282.trans (congrArg some (by kernel_rfl))⟩
 f18:=⟨Tryz.f283.name,by decide,Tryz.func283.trans (congrArg some (by kernel_rfl))⟩
 f19:=Tryz.func260.trans (congrArg some (by kernel_rfl))
 f20:=Tryz.func261.trans (congrArg some (by kernel_rfl))
 f30:=⟨Tryz.f313.name,by decide,Tryz.func313.trans (congrArg some (by kernel_rfl))⟩
 f31:=Tryz.func305.trans (congrArg some (by kernel_rfl))
 f32:=Tryz.func306.trans (congrArg some (by kernel_rfl))
 f33:=⟨Tryz.f314.name,by decide,Tryz.func314.trans (congrArg some (by kernel_rfl))⟩
 f34:=⟨Tryz.f315.name,by decide,Tryz.func315.trans (congrArg some (by kernel_rfl))⟩
 f35:=⟨Tryz.f316.name,by decide,Tryz.func316.trans (congrArg some (by kernel_rfl))⟩
 f40:=⟨Tryz.f326.name,by decide,Tryz.func326.trans (congrArg some (by kernel_rfl))⟩
 t0:=Tryz.underlying0
 a0:=Tryz.isAgg0
 z0:=Tryz.sizeOf0
 v0:=Tryz.zeroValue0
 t3:=Tryz.underlying3
 a3:=Tryz.isAgg3
 z3:=Tryz.sizeOf3
 v3:=Tryz.zeroValue3
 t4:=Tryz.underlying4
 a4:=Tryz.isAgg4
 z4:=Tryz.sizeOf4
 v4:=Tryz.zeroValue4
 t5:=Tryz.underlying5
 a5:=Tryz.isAgg5
 z5:=Tryz.sizeOf5
 v5:=Tryz.zeroValue5
 t9:=Tryz.underlying9
 a9:=Tryz.isAgg9
 z9:=Tryz.sizeOf9
 v9:=Tryz.zeroValue9
 t22:=Tryz.underlying22
 a22:=Tryz.isAgg22
 z22:=Tryz.sizeOf22
 v22:=Tryz.zeroValue22
 t23:=Tryz.underlying22
 a23:=Tryz.isAgg22
 z23:=Tryz.sizeOf22
 v23:=Tryz.zeroValue22
 t25:=Tryz.underlying3
 a25:=Tryz.isAgg3
 z25:=Tryz.sizeOf3
 v25:=Tryz.zeroValue3
 t32:=Tryz.underlying205
 a32:=Tryz.isAgg205
 z32:=Tryz.sizeOf205
 v32:=Tryz.zeroValue205
 t35:=Tryz.underlying393
 a35:=Tryz.isAgg393
 z35:=Tryz.sizeOf393
 v35:=Tryz.zeroValue393
 t36:=Tryz.underlying394
 a36:=Tryz.isAgg394
 z36:=Tryz.sizeOf394
 v36:=Tryz.zeroValue394
 t41:=Tryz.underlying308
 a41:=Tryz.isAgg308
 z41:=Tryz.sizeOf308
 v41:=Tryz.zeroValue308
 t44:=Tryz.underlying401
 a44:=Tryz.isAgg401
 z44:=Tryz.sizeOf401
 v44:=Tryz.zeroValue401
 t46:=Tryz.underlying23
 a46:=Tryz.isAgg23
 z46:=Tryz.sizeOf23
 v46:=Tryz.zeroValue23
 t53:=Tryz.underlying450
 a53:=Tryz.isAgg450
 z53:=Tryz.sizeOf450
 v53:=Tryz.zeroValue450
 t57:=Tryz.underlying453
 a57:=Tryz.isAgg453
 z57:=Tryz.sizeOf453
 v57:=Tryz.zeroValue453
 t63:=Tryz.underlying480
 a63:=Tryz.isAgg480
 z63:=Tryz.sizeOf480
 v63:=Tryz.zeroValue480
 t64:=Tryz.underlying83
 a64:=Tryz.isAgg83
 z64:=Tryz.sizeOf83
 v64:=Tryz.zeroValue83}
end Go.Proofs.YtjamiaamngalgaaGreat
