/- What functions answer that are called with few arguments alone The abstract machine's program of this seat What the abstract machine's values and objects stand for in the model's memory The relation b -/
import Derived.KernelRfl
import Derived.WalkKit
import Derived.Laws.CopyRow
import Derived.Deep.AppendSrc
import Derived.Laws.MakeOwn
import Derived.Laws.BytesArg
import Derived.Laws.Tables
import Derived.Test.YtkollgjffkdliaaGreatDoorProg
import Derived.Test.YtkollgjffkdliaaGreatDoorM01
set_option linter.all false
namespace Go.Proofs.YtkollgjffkdliaaGreatDoor.Am
open Go
set_option maxRecDepth 100000
def z6f:List (List AV×AV):=[([(.agg [(.int .i64 4),(.bool false),(.str [48]),(.sl [] .no),(.sl [] .no)]),(.str [48]),(.str [48])],(.tup [(.agg [(.int .i64 4),(.bool false),(.str [48]),(.sl [] .no),(.sl [] .no)]),(.int .i64 0)])),([(.agg [(.int .i64 4),(.bool false),(.str [48]),(.sl [] .no),(.sl [] .no)]),(.str [48]),(.str [49])],(.tup [(.agg [(.int .i64 4),(.bool false),(.str [48]),(.sl [(.str [48])] .no),(.sl [(.str [49])] .no)]),(.int .i64 0)])),([(.agg [(.int .i64 4),(.bool false),(.str [48]),(.sl [] .no),(.sl [] .no)]),(.str [48]),(.str [50])],(.tup [(.agg [(.int .i64 4),(.bool false),(.str [48]),(.sl [(.str [48])] .no),(.sl [(.str [50])] .no)]),(.int .i64 0)])),([(.agg [(.int .i64 4),(.bool false),(.str [48]),(.sl [] .no),(.sl [] .no)]),(.str [49]),(.str [48])],(.tup [(.agg [(.int .i64 4),(.bool false),(.str [48]),(.sl [] .no),(.sl [] .no)]),(.int .i64 0)])),([(.agg [(.int .i64 4),(.bool false),(.str [48]),(.sl [] .no),(.sl [] .no)]),(.str [49]),(.str [49])],(.tup [(.agg [(.int .i64 4),(.bool false),(.str [48]),(.sl [(.str [49])] .no),(.sl [(.str [49])] .no)]),(.int .i64 0)])),([(.agg [(.int .i64 4),(.bool false),(.str [48]),(.sl [] .no),(.sl [] .no)]),(.str [49]),(.str [50])],(.tup [(.agg [(.int .i64 4),(.bool false),(.str [48]),(.sl [(.str [49])] .no),(.sl [(.str [50])] .no)]),(.int .i64 0)])),([(.agg [(.int .i64 4),(.bool false),(.str [48]),(.sl [] .no),(.sl [] .no)]),(.str [50]),(.str [48])],(.tup [(.agg [(.int .i64 4),(.bool false),(.str [48]),(.sl [] .no),(.sl [] .no)]),(.int .i64 0)])),([(.agg [(.int .i64 4),(.bool false),(.str [48]),(.sl [] .no),(.sl [] .no)]),(.str [50]),(.str [49])],(.tup [(.agg [(.int .i64 4),(.bool false),(.str [48]),(.sl [(.str [50])] .no),(.sl [(.str [49])] .no)]),(.int .i64 0)])),([(.agg [(.int .i64 4),(.bool false),(.str [48]),(.sl [] .no),(.sl [] .no)]),(.str [50]),(.str [50])],(.tup [(.agg [(.int .i64 4),(.bool false),(.str [48]),(.sl [(.str [50])] .no),(.sl [(.str [50])] .no)]),(.int .i64 0)])),([(.agg [(.int .i64 4),(.bool false),(.str [49]),(.sl [] .no),(.sl [] .no)]),(.str [48]),(.str [48])],(.tup [(.agg [(.int .i64 4),(.bool false),(.str [49]),(.sl [(.str [48])] .no),(.sl [(.str [48])] .no)]),(.int .i64 0)])),([(.agg [(.int .i64 4),(.bool false),(.str [49]),(.sl [] .no),(.sl [] .no)]),(.str [48]),(.str [49])],(.tup [(.agg [(.int .i64 4),(.bool false),(.str [49]),(.sl [] .no),(.sl [] .no)]),(.int .i64 0)])),([(.agg [(.int .i64 4),(.bool false),(.str [49]),(.sl [] .no),(.sl [] .no)]),(.str [48]),(.str [50])],(.tup [(.agg [(.int .i64 4),(.bool false),(.str [49]),(.sl [(.str [48])] .no),(.sl [(.str [50])] .no)]),(.int .i64 0)])),([(.agg [(.int .i64 4),(.bool false),(.str [49]),(.sl [] .no),(.sl [] .no)]),(.str [49]),(.str [48])],(.tup [(.agg [(.int .i64 4),(.bool false),(.str [49]),(.sl [(.str [49])] .no),(.sl [(.str [48])] .no)]),(.int .i64 0)])),([(.agg [(.int .i64 4),(.bool false),(.str [49]),(.sl [] .no),(.sl [] .no)]),(.str [49]),(.str [49])],(.tup [(.agg [(.int .i64 4),(.bool false),(.str [49]),(.sl [] .no),(.sl [] .no)]),(.int .i64 0)])),([(.agg [(.int .i64 4),(.bool false),(.str [49]),(.sl [] .no),(.sl [] .no)]),(.str [49]),(.str [50])],(.tup [(.agg [(.int .i64 4),(.bool false),(.str [49]),(.sl [(.str [49])] .no),(.sl [(.str [50])] .no)]),(.int .i64 0)])),([(.agg [(.int .i64 4),(.bool false),(.str [49]),(.sl [] .no),(.sl [] .no)]),(.str [50]),(.str [48])],(.tup [(.agg [(.int .i64 4),(.bool false),(.str [49]),(.sl [(.str [50])] .no),(.sl [(.str [48])] .no)]),(.int .i64 0)])),([(.agg [(.int .i64 4),(.bool false),(.str [49]),(.sl [] .no),(.sl [] .no)]),(.str [50]),(.str [49])],(.tup [(.agg [(.int .i64 4),(.bool false),(.str [49]),(.sl [] .no),(.sl [] .no)]),(.int .i64 0)])),([(.agg [(.int .i64 4),(.bool false),(.str [49]),(.sl [] .no),(.sl [] .no)]),(.str [50]),(.str [50])],(.tup [(.agg [(.int .i64 4),(.bool false),(.str [49]),(.sl [(.str [50])] .no),(.sl [(.str [50])] .no)]),(.int .i64 0)])),([(.agg [(.int .i64 4),(.bool false),(.str [50]),(.sl [] .no),(.sl [] .no)]),(.str [48]),(.str [48])],(.tup [(.agg [(.int .i64 4),(.bool false),(.str [50]),(.sl [(.str [48])] .no),(.sl [(.str [48])] .no)]),(.int .i64 0)])),([(.agg [(.int .i64 4),(.bool false),(.str [50]),(.sl [] .no),(.sl [] .no)]),(.str [48]),(.str [49])],(.tup [(.agg [(.int .i64 4),(.bool false),(.str [50]),(.sl [(.str [48])] .no),(.sl [(.str [49])] .no)]),(.int .i64 0)])),([(.agg [(.int .i64 4),(.bool false),(.str [50]),(.sl [] .no),(.sl [] .no)]),(.str [48]),(.str [50])],(.tup [(.agg [(.int .i64 4),(.bool false),(.str [50]),(.sl [] .no),(.sl [] .no)]),(.int .i64 0)])),([(.agg [(.int .i64 4),(.bool false),(.str [50]),(.sl [] .no),(.sl [] .no)]),(.str [49]),(.str [48])],(.tup [(.agg [(.int .i64 4),(.bool false),(.str [50]),(.sl [(.str [49])] .no),(.sl [(.str [48])] .no)]),(.int .i64 0)])),([(.agg [(.int .i64 4),(.bool false),(.str [50]),(.sl [] .no),(.sl [] .no)]),(.str [49]),(.str [49])],(.tup [(.agg [(.int .i64 4),(.bool false),(.str [50]),(.sl [(.str [49])] .no),(.sl [(.str [49])] .no)]),(.int .i64 0)])),([(.agg [(.int .i64 4),(.bool false),(.str [50]),(.sl [] .no),(.sl [] .no)]),(.str [49]),(.str [50])],(.tup [(.agg [(.int .i64 4),(.bool false),(.str [50]),(.sl [] .no),(.sl [] .no)]),(.int .i64 0)])),([(.agg [(.int .i64 4),(.bool false),(.str [50]),(.sl [] .no),(.sl [] .no)]),(.str [50]),(.str [48])],(.tup [(.agg [(.int .i64 4),(.bool false),(.str [50]),(.sl [(.str [50])] .no),(.sl [(.str [48])] .no)]),(.int .i64 0)])),([(.agg [(.int .i64 4),(.bool false),(.str [50]),(.sl [] .no),(.sl [] .no)]),(.str [50]),(.str [49])],(.tup [(.agg [(.int .i64 4),(.bool false),(.str [50]),(.sl [(.str [50])] .no),(.sl [(.str [49])] .no)]),(.int .i64 0)])),([(.agg [(.int .i64 4),(.bool false),(.str [50]),(.sl [] .no),(.sl [] .no)]),(.str [50]),(.str [50])],(.tup [(.agg [(.int .i64 4),(.bool false),(.str [50]),(.sl [] .no),(.sl [] .no)]),(.int .i64 0)]))]
def z2p:List (List AV×AV):=[([(.agg [(.int .i64 1),(.bool true),(.str []),(.sl [] .no),(.sl [] .no)])],(.tup [(.sl [(.agg [(.int .i64 1),(.int .i64 0),(.str []),(.str []),(.int .i64 0)])] .no),(.int .i64 0)])),([(.agg [(.int .i64 1),(.bool false),(.str []),(.sl [] .no),(.sl [] .no)])],(.tup [(.sl [(.agg [(.int .i64 2),(.int .i64 0),(.str []),(.str []),(.int .i64 0)])] .no),(.int .i64 0)])),([(.agg [(.int .i64 2),(.bool false),(.str [45,50]),(.sl [] .no),(.sl [] .no)])],(.tup [(.sl [(.agg [(.int .i64 3),(.int .i64 2),(.str []),(.str [45,50]),(.int .i64 0)])] .no),(.int .i64 0)])),([(.agg [(.int .i64 2),(.bool false),(.str [45,49]),(.sl [] .no),(.sl [] .no)])],(.tup [(.sl [(.agg [(.int .i64 3),(.int .i64 2),(.str []),(.str [45,49]),(.int .i64 0)])] .no),(.int .i64 0)])),([(.agg [(.int .i64 2),(.bool false),(.str [48]),(.sl [] .no),(.sl [] .no)])],(.tup [(.sl [(.agg [(.int .i64 3),(.int .i64 2),(.str []),(.str [48]),(.int .i64 0)])] .no),(.int .i64 0)])),([(.agg [(.int .i64 2),(.bool false),(.str [49]),(.sl [] .no),(.sl [] .no)])],(.tup [(.sl [(.agg [(.int .i64 3),(.int .i64 2),(.str []),(.str [49]),(.int .i64 0)])] .no),(.int .i64 0)])),([(.agg [(.int .i64 2),(.bool false),(.str [50]),(.sl [] .no),(.sl [] .no)])],(.tup [(.sl [(.agg [(.int .i64 3),(.int .i64 2),(.str []),(.str [50]),(.int .i64 0)])] .no),(.int .i64 0)])),([(.agg [(.int .i64 2),(.bool false),(.str [51]),(.sl [] .no),(.sl [] .no)])],(.tup [(.sl [(.agg [(.int .i64 3),(.int .i64 2),(.str []),(.str [51]),(.int .i64 0)])] .no),(.int .i64 0)])),([(.agg [(.int .i64 3),(.bool false),(.str [45,50]),(.sl [] .no),(.sl [] .no)])],(.tup [(.sl [(.agg [(.int .i64 3),(.int .i64 3),(.str []),(.str [45,50]),(.int .i64 0)])] .no),(.int .i64 0)])),([(.agg [(.int .i64 3),(.bool false),(.str [45,49]),(.sl [] .no),(.sl [] .no)])],(.tup [(.sl [(.agg [(.int .i64 3),(.int .i64 3),(.str []),(.str [45,49]),(.int .i64 0)])] .no),(.int .i64 0)])),([(.agg [(.int .i64 3),(.bool false),(.str [48]),(.sl [] .no),(.sl [] .no)])],(.tup [(.sl [(.agg [(.int .i64 3),(.int .i64 3),(.str []),(.str [48]),(.int .i64 0)])] .no),(.int .i64 0)])),([(.agg [(.int .i64 3),(.bool false),(.str [49]),(.sl [] .no),(.sl [] .no)])],(.tup [(.sl [(.agg [(.int .i64 3),(.int .i64 3),(.str []),(.str [49]),(.int .i64 0)])] .no),(.int .i64 0)])),([(.agg [(.int .i64 3),(.bool false),(.str [50]),(.sl [] .no),(.sl [] .no)])],(.tup [(.sl [(.agg [(.int .i64 3),(.int .i64 3),(.str []),(.str [50]),(.int .i64 0)])] .no),(.int .i64 0)])),([(.agg [(.int .i64 3),(.bool false),(.str [51]),(.sl [] .no),(.sl [] .no)])],(.tup [(.sl [(.agg [(.int .i64 3),(.int .i64 3),(.str []),(.str [51]),(.int .i64 0)])] .no),(.int .i64 0)])),([(.agg [(.int .i64 4),(.bool false),(.str [48]),(.sl [] .no),(.sl [] .no)])],(.tup [(.sl [(.agg [(.int .i64 20),(.int .i64 0),(.str []),(.str []),(.int .i64 1)]),(.agg [(.int .i64 3),(.int .i64 2),(.str []),(.str [48]),(.int .i64 0)])] .no),(.int .i64 0)])),([(.agg [(.int .i64 4),(.bool false),(.str [48]),(.sl [(.str [48])] .no),(.sl [(.str [49])] .no)])],(.tup [(.sl [(.agg [(.int .i64 19),(.int .i64 0),(.str []),(.str []),(.int .i64 3)]),(.agg [(.int .i64 20),(.int .i64 0),(.str []),(.str []),(.int .i64 1)]),(.agg [(.int .i64 3),(.int .i64 2),(.str []),(.str [48]),(.int .i64 0)]),(.agg [(.int .i64 3),(.int .i64 2),(.str []),(.str [48]),(.int .i64 0)]),(.agg [(.int .i64 3),(.int .i64 2),(.str []),(.str [49]),(.int .i64 0)])] .no),(.int .i64 0)])),([(.agg [(.int .i64 4),(.bool false),(.str [48]),(.sl [(.str [48])] .no),(.sl [(.str [50])] .no)])],(.tup [(.sl [(.agg [(.int .i64 19),(.int .i64 0),(.str []),(.str []),(.int .i64 3)]),(.agg [(.int .i64 20),(.int .i64 0),(.str []),(.str []),(.int .i64 1)]),(.agg [(.int .i64 3),(.int .i64 2),(.str []),(.str [48]),(.int .i64 0)]),(.agg [(.int .i64 3),(.int .i64 2),(.str []),(.str [48]),(.int .i64 0)]),(.agg [(.int .i64 3),(.int .i64 2),(.str []),(.str [50]),(.int .i64 0)])] .no),(.int .i64 0)])),([(.agg [(.int .i64 4),(.bool false),(.str [48]),(.sl [(.str [49])] .no),(.sl [(.str [49])] .no)])],(.tup [(.sl [(.agg [(.int .i64 19),(.int .i64 0),(.str []),(.str []),(.int .i64 3)]),(.agg [(.int .i64 20),(.int .i64 0),(.str []),(.str []),(.int .i64 1)]),(.agg [(.int .i64 3),(.int .i64 2),(.str []),(.str [48]),(.int .i64 0)]),(.agg [(.int .i64 3),(.int .i64 2),(.str []),(.str [49]),(.int .i64 0)]),(.agg [(.int .i64 3),(.int .i64 2),(.str []),(.str [49]),(.int .i64 0)])] .no),(.int .i64 0)])),([(.agg [(.int .i64 4),(.bool false),(.str [48]),(.sl [(.str [49])] .no),(.sl [(.str [50])] .no)])],(.tup [(.sl [(.agg [(.int .i64 19),(.int .i64 0),(.str []),(.str []),(.int .i64 3)]),(.agg [(.int .i64 20),(.int .i64 0),(.str []),(.str []),(.int .i64 1)]),(.agg [(.int .i64 3),(.int .i64 2),(.str []),(.str [48]),(.int .i64 0)]),(.agg [(.int .i64 3),(.int .i64 2),(.str []),(.str [49]),(.int .i64 0)]),(.agg [(.int .i64 3),(.int .i64 2),(.str []),(.str [50]),(.int .i64 0)])] .no),(.int .i64 0)])),([(.agg [(.int .i64 4),(.bool false),(.str [48]),(.sl [(.str [50])] .no),(.sl [(.str [49])] .no)])],(.tup [(.sl [(.agg [(.int .i64 19),(.int .i64 0),(.str []),(.str []),(.int .i64 3)]),(.agg [(.int .i64 20),(.int .i64 0),(.str []),(.str []),(.int .i64 1)]),(.agg [(.int .i64 3),(.int .i64 2),(.str []),(.str [48]),(.int .i64 0)]),(.agg [(.int .i64 3),(.int .i64 2),(.str []),(.str [50]),(.int .i64 0)]),(.agg [(.int .i64 3),(.int .i64 2),(.str []),(.str [49]),(.int .i64 0)])] .no),(.int .i64 0)])),([(.agg [(.int .i64 4),(.bool false),(.str [48]),(.sl [(.str [50])] .no),(.sl [(.str [50])] .no)])],(.tup [(.sl [(.agg [(.int .i64 19),(.int .i64 0),(.str []),(.str []),(.int .i64 3)]),(.agg [(.int .i64 20),(.int .i64 0),(.str []),(.str []),(.int .i64 1)]),(.agg [(.int .i64 3),(.int .i64 2),(.str []),(.str [48]),(.int .i64 0)]),(.agg [(.int .i64 3),(.int .i64 2),(.str []),(.str [50]),(.int .i64 0)]),(.agg [(.int .i64 3),(.int .i64 2),(.str []),(.str [50]),(.int .i64 0)])] .no),(.int .i64 0)])),([(.agg [(.int .i64 4),(.bool false),(.str [49]),(.sl [(.str [48])] .no),(.sl [(.str [48])] .no)])],(.tup [(.sl [(.agg [(.int .i64 19),(.int .i64 0),(.str []),(.str []),(.int .i64 3)]),(.agg [(.int .i64 20),(.int .i64 0),(.str []),(.str []),(.int .i64 1)]),(.agg [(.int .i64 3),(.int .i64 2),(.str []),(.str [49]),(.int .i64 0)]),(.agg [(.int .i64 3),(.int .i64 2),(.str []),(.str [48]),(.int .i64 0)]),(.agg [(.int .i64 3),(.int .i64 2),(.str []),(.str [48]),(.int .i64 0)])] .no),(.int .i64 0)])),([(.agg [(.int .i64 4),(.bool false),(.str [49]),(.sl [] .no),(.sl [] .no)])],(.tup [(.sl [(.agg [(.int .i64 20),(.int .i64 0),(.str []),(.str []),(.int .i64 1)]),(.agg [(.int .i64 3),(.int .i64 2),(.str []),(.str [49]),(.int .i64 0)])] .no),(.int .i64 0)])),([(.agg [(.int .i64 4),(.bool false),(.str [49]),(.sl [(.str [48])] .no),(.sl [(.str [50])] .no)])],(.tup [(.sl [(.agg [(.int .i64 19),(.int .i64 0),(.str []),(.str []),(.int .i64 3)]),(.agg [(.int .i64 20),(.int .i64 0),(.str []),(.str []),(.int .i64 1)]),(.agg [(.int .i64 3),(.int .i64 2),(.str []),(.str [49]),(.int .i64 0)]),(.agg [(.int .i64 3),(.int .i64 2),(.str []),(.str [48]),(.int .i64 0)]),(.agg [(.int .i64 3),(.int .i64 2),(.str []),(.str [50]),(.int .i64 0)])] .no),(.int .i64 0)])),([(.agg [(.int .i64 4),(.bool false),(.str [49]),(.sl [(.str [49])] .no),(.sl [(.str [48])] .no)])],(.tup [(.sl [(.agg [(.int .i64 19),(.int .i64 0),(.str []),(.str []),(.int .i64 3)]),(.agg [(.int .i64 20),(.int .i64 0),(.str []),(.str []),(.int .i64 1)]),(.agg [(.int .i64 3),(.int .i64 2),(.str []),(.str [49]),(.int .i64 0)]),(.agg [(.int .i64 3),(.int .i64 2),(.str []),(.str [49]),(.int .i64 0)]),(.agg [(.int .i64 3),(.int .i64 2),(.str []),(.str [48]),(.int .i64 0)])] .no),(.int .i64 0)])),([(.agg [(.int .i64 4),(.bool false),(.str [49]),(.sl [(.str [49])] .no),(.sl [(.str [50])] .no)])],(.tup [(.sl [(.agg [(.int .i64 19),(.int .i64 0),(.str []),(.str []),(.int .i64 3)]),(.agg [(.int .i64 20),(.int .i64 0),(.str []),(.str []),(.int .i64 1)]),(.agg [(.int .i64 3),(.int .i64 2),(.str []),(.str [49]),(.int .i64 0)]),(.agg [(.int .i64 3),(.int .i64 2),(.str []),(.str [49]),(.int .i64 0)]),(.agg [(.int .i64 3),(.int .i64 2),(.str []),(.str [50]),(.int .i64 0)])] .no),(.int .i64 0)])),([(.agg [(.int .i64 4),(.bool false),(.str [49]),(.sl [(.str [50])] .no),(.sl [(.str [48])] .no)])],(.tup [(.sl [(.agg [(.int .i64 19),(.int .i64 0),(.str []),(.str []),(.int .i64 3)]),(.agg [(.int .i64 20),(.int .i64 0),(.str []),(.str []),(.int .i64 1)]),(.agg [(.int .i64 3),(.int .i64 2),(.str []),(.str [49]),(.int .i64 0)]),(.agg [(.int .i64 3),(.int .i64 2),(.str []),(.str [50]),(.int .i64 0)]),(.agg [(.int .i64 3),(.int .i64 2),(.str []),(.str [48]),(.int .i64 0)])] .no),(.int .i64 0)])),([(.agg [(.int .i64 4),(.bool false),(.str [49]),(.sl [(.str [50])] .no),(.sl [(.str [50])] .no)])],(.tup [(.sl [(.agg [(.int .i64 19),(.int .i64 0),(.str []),(.str []),(.int .i64 3)]),(.agg [(.int .i64 20),(.int .i64 0),(.str []),(.str []),(.int .i64 1)]),(.agg [(.int .i64 3),(.int .i64 2),(.str []),(.str [49]),(.int .i64 0)]),(.agg [(.int .i64 3),(.int .i64 2),(.str []),(.str [50]),(.int .i64 0)]),(.agg [(.int .i64 3),(.int .i64 2),(.str []),(.str [50]),(.int .i64 0)])] .no),(.int .i64 0)])),([(.agg [(.int .i64 4),(.bool false),(.str [50]),(.sl [(.str [48])] .no),(.sl [(.str [48])] .no)])],(.tup [(.sl [(.agg [(.int .i64 19),(.int .i64 0),(.str []),(.str []),(.int .i64 3)]),(.agg [(.int .i64 20),(.int .i64 0),(.str []),(.str []),(.int .i64 1)]),(.agg [(.int .i64 3),(.int .i64 2),(.str []),(.str [50]),(.int .i64 0)]),(.agg [(.int .i64 3),(.int .i64 2),(.str []),(.str [48]),(.int .i64 0)]),(.agg [(.int .i64 3),(.int .i64 2),(.str []),(.str [48]),(.int .i64 0)])] .no),(.int .i64 0)])),([(.agg [(.int .i64 4),(.bool false),(.str [50]),(.sl [(.str [48])] .no),(.sl [(.str [49])] .no)])],(.tup [(.sl [(.agg [(.int .i64 19),(.int .i64 0),(.str []),(.str []),(.int .i64 3)]),(.agg [(.int .i64 20),(.int .i64 0),(.str []),(.str []),(.int .i64 1)]),(.agg [(.int .i64 3),(.int .i64 2),(.str []),(.str [50]),(.int .i64 0)]),(.agg [(.int .i64 3),(.int .i64 2),(.str []),(.str [48]),(.int .i64 0)]),(.agg [(.int .i64 3),(.int .i64 2),(.str []),(.str [49]),(.int .i64 0)])] .no),(.int .i64 0)])),([(.agg [(.int .i64 4),(.bool false),(.str [50]),(.sl [] .no),(.sl [] .no)])],(.tup [(.sl [(.agg [(.int .i64 20),(.int .i64 0),(.str []),(.str []),(.int .i64 1)]),(.agg [(.int .i64 3),(.int .i64 2),(.str []),(.str [50]),(.int .i64 0)])] .no),(.int .i64 0)])),([(.agg [(.int .i64 4),(.bool false),(.str [50]),(.sl [(.str [49])] .no),(.sl [(.str [48])] .no)])],(.tup [(.sl [(.agg [(.int .i64 19),(.int .i64 0),(.str []),(.str []),(.int .i64 3)]),(.agg [(.int .i64 20),(.int .i64 0),(.str []),(.str []),(.int .i64 1)]),(.agg [(.int .i64 3),(.int .i64 2),(.str []),(.str [50]),(.int .i64 0)]),(.agg [(.int .i64 3),(.int .i64 2),(.str []),(.str [49]),(.int .i64 0)]),(.agg [(.int .i64 3),(.int .i64 2),(.str []),(.str [48]),(.int .i64 0)])] .no),(.int .i64 0)])),([(.agg [(.int .i64 4),(.bool false),(.str [50]),(.sl [(.str [49])] .no),(.sl [(.str [49])] .no)])],(.tup [(.sl [(.agg [(.int .i64 19),(.int .i64 0),(.str []),(.str []),(.int .i64 3)]),(.agg [(.int .i64 20),(.int .i64 0),(.str []),(.str []),(.int .i64 1)]),(.agg [(.int .i64 3),(.int .i64 2),(.str []),(.str [50]),(.int .i64 0)]),(.agg [(.int .i64 3),(.int .i64 2),(.str []),(.str [49]),(.int .i64 0)]),(.agg [(.int .i64 3),(.int .i64 2),(.str []),(.str [49]),(.int .i64 0)])] .no),(.int .i64 0)])),([(.agg [(.int .i64 4),(.bool false),(.str [50]),(.sl [(.str [50])] .no),(.sl [(.str [48])] .no)])],(.tup [(.sl [(.agg [(.int .i64 19),(.int .i64 0),(.str []),(.str []),(.int .i64 3)]),(.agg [(.int .i64 20),(.int .i64 0),(.str []),(.str []),(.int .i64 1)]),(.agg [(.int .i64 3),(.int .i64 2),(.str []),(.str [50]),(.int .i64 0)]),(.agg [(.int .i64 3),(.int .i64 2),(.str []),(.str [50]),(.int .i64 0)]),(.agg [(.int .i64 3),(.int .i64 2),(.str []),(.str [48]),(.int .i64 0)])] .no),(.int .i64 0)])),([(.agg [(.int .i64 4),(.bool false),(.str [50]),(.sl [(.str [50])] .no),(.sl [(.str [49])] .no)])],(.tup [(.sl [(.agg [(.int .i64 19),(.int .i64 0),(.str []),(.str []),(.int .i64 3)]),(.agg [(.int .i64 20),(.int .i64 0),(.str []),(.str []),(.int .i64 1)]),(.agg [(.int .i64 3),(.int .i64 2),(.str []),(.str [50]),(.int .i64 0)]),(.agg [(.int .i64 3),(.int .i64 2),(.str []),(.str [50]),(.int .i64 0)]),(.agg [(.int .i64 3),(.int .i64 2),(.str []),(.str [49]),(.int .i64 0)])] .no),(.int .i64 0)]))]
def q9l:List (List AV×AV):=[([(.str [80])],(.bool true)),([(.str [81])],(.bool true)),([(.str [82])],(.bool true)),([(.str [90])],(.bool true)),([(.str [83])],(.bool true)),([(.str [78])],(.bool true)),([(.str [120])],(.bool true)),([(.str [121])],(.bool true)),([(.str [122])],(.bool true)),([(.str [119])],(.bool true)),([(.str [112])],(.bool true)),([(.str [98])],(.bool true)),([(.str [97])],(.bool true)),([(.str [99])],(.bool true)),([(.str [117])],(.bool true)),([(.str [118])],(.bool true)),([(.str [121,48])],(.bool true)),([(.str [112,48])],(.bool true)),([(.str [112,49])],(.bool true)),([(.str [112,50])],(.bool true))]
def v8i:List (List AV×AV):=[([],(.sl [(.agg [(.str [80]),(.sl [(.int .i64 2)] .no),(.int .i64 1)]),(.agg [(.str [81]),(.sl [(.int .i64 2),(.int .i64 2)] .no),(.int .i64 1)]),(.agg [(.str [82]),(.sl [(.int .i64 1),(.int .i64 2),(.int .i64 2)] .no),(.int .i64 1)]),(.agg [(.str [90]),(.sl [] .no),(.int .i64 1)]),(.agg [(.str [83]),(.sl [(.int .i64 3),(.int .i64 4)] .no),(.int .i64 1)])] .no))]
def j4q:List (List AV×AV):=[([(.agg [(.str [80]),(.sl [(.int .i64 2)] .no),(.int .i64 1)])],(.bool false)),([(.agg [(.str [81]),(.sl [(.int .i64 2),(.int .i64 2)] .no),(.int .i64 1)])],(.bool false)),([(.agg [(.str [82]),(.sl [(.int .i64 1),(.int .i64 2),(.int .i64 2)] .no),(.int .i64 1)])],(.bool false)),([(.agg [(.str [90]),(.sl [] .no),(.int .i64 1)])],(.bool false)),([(.agg [(.str [83]),(.sl [(.int .i64 3),(.int .i64 4)] .no),(.int .i64 1)])],(.bool false)),([(.agg [(.str [78]),(.sl [(.int .i64 2)] .no),(.int .i64 1)])],(.bool false))]
def v8j:List (List AV×AV):=[([],(.sl [(.agg [(.str [120]),(.int .i64 2)]),(.agg [(.str [121]),(.int .i64 2)]),(.agg [(.str [122]),(.int .i64 3)]),(.agg [(.str [119]),(.int .i64 3)]),(.agg [(.str [112]),(.int .i64 1)]),(.agg [(.str [98]),(.int .i64 1)]),(.agg [(.str [97]),(.int .i64 4)]),(.agg [(.str [99]),(.int .i64 4)])] .no))]
def q2k:List (List AV×AV):=q9l.map fun p=>(p.1, .bool true)
def k0u:List (List AV×AV):=j4q.map fun p=>(p.1, .bool true)
def k0v:List (List AV×AV):=[([.int .i64 0], .str [48]),([.int .i64 1], .str [49]),([.int .i64 2], .str [50])]
def w6n:List (Nat×List (List AV×AV)):=[(99,k0v),(168,q2k),(222,k0u),(49,z6f),(195,z2p),(183,q9l),(24,v8i),(124,j4q),(67,v8j),(10,[([], .bool true)])]
def q0d (tab:List (List AV×AV)) (xs:List AV):Option AV:=(tab.find? fun p=>j8d p.1 xs).map (·.2)
def x5j (f:Nat):Option Nat:=if f=252 then some 294 else none
def w6o (f:Nat):Hint:=
 if f=192 then {mu:=[21]}
 else if f=77 then {mu:=[39]}
 else if f=217 then {byref:=[1],owned:=true}
 else if f=223 then {byref:=[0],owned:=true}
 else if f=36 then {owned:=true}
 else if f=236 then {alt:=[(49,1)]}
 else if f=46 then {mu:=[0,1,2,3,4]}
 else {}
def z5d (esz bytes:Nat):List AV→Option AV
 | [.sl xs _]=>if z0v esz xs=true∧(idsL xs).isEmpty=true∧xs.length * (bytes + 1)≤2 ^ 46 then some (.sl xs .no) else none
 | _=>none
def x3f:List AV→Option AV
 | [.str s, .int .u8 c]=>if 0≤c∧c < 256 then some (.int .i64 (match s.findIdx? (fun (b:Nat)=>decide ((b:Int)=c)) with | some i=>(i:Int) | none=> -1)) else none
 | _=>none
def y9j (f:Nat):Option (List AV→Option AV):=if f=90 then some (z5d 1 8) else if f=91 then some (z5d 2 24) else if f=92 then some (z5d 5 56) else if f=354 then some x3f else none
noncomputable def Gam:AProg where
 fn f:=cFun Tryz.prog x5j (w6o f) (real f)
 ext f:=match y9j f with
  | some sem=>some sem
  | none=>(w6n.find? fun p=>p.1==f).map fun p=>q0d p.2
 iters:=[294]
structure GInfo where
 slot:Nat
 blk:Nat
 esz:Nat
 cap:Nat
 endp:Nat
 capE:Nat
 room:Bool
abbrev Ghost:=Nat→Option GInfo
abbrev Imm:=Nat→Nat→Option Value
def z8k (s:List Nat):ByteArray:=⟨(s.map UInt8.ofNat).toArray⟩
def TipR (G:Ghost):Tip→Option Addr→List AV→Nat→Prop
 | .no,_,_,_=>True
 | .full,_,xs,c=>c=xs.length
 | .nn,A,_,_=>A≠none
 | .nil,A,xs,c=>A=none∧xs.length=0∧c=0
 | .at s g,A,xs,c=>∃ i,G g=some i∧i.slot=s∧0 < i.esz∧(∀ x∈xs,x.cells.length=i.esz)∧
  (c=xs.length∨(i.room=true∧∃ o,A=some ⟨i.blk,o,none⟩∧o + xs.length * i.esz=i.endp∧o + c * i.esz=i.capE))
mutual
def VR (G:Ghost) (I:Imm):AV→Value→Prop
 | .undef,_=>True
 | .int k n,v=>v= .int k n
 | .bool b,v=>v= .bool b
 | .str s,v=>v= .string (z8k s)∧∀ b∈s,b < 256
 | .agg cs,v=>∃ vs:Array Value,v= .agg vs∧VRL G I cs vs.toList
 | .tup cs,v=>∃ vs:Array Value,v= .tuple vs∧VRL G I cs vs.toList
 | .sl xs t,v=>∃ A n c,v= .slice A n c∧xs.length=n∧n≤c∧TipR G t A xs c∧
  (n=0∨∃ b o e,A=some ⟨b,o,none⟩∧0 < e∧RowI G I xs b o e)
 | .ob s g off len,v=>∃ i A c,G g=some i∧i.slot=s∧v= .slice A len c∧len≤c∧off + c=i.cap∧
  (c=0∨A=some ⟨i.blk,off * i.esz,none⟩)
 | .ptr s g k o,v=>∃ i,G g=some i∧i.slot=s∧v= .pointer (some ⟨i.blk,k * i.esz + o,none⟩)
 | .iptr cs o,v=>∃ b p,v= .pointer (some ⟨b,p + o,none⟩)∧CellsI G I cs b p
 | .nilptr,v=>v= .pointer none
 | .mp s g,v=>∃ i,G g=some i∧i.slot=s∧v= .map (some i.blk)
 | .nilmap,v=>v= .map none
 | .fn f cap,v=>∃ vs:Array Value,v= .func (.func (real f)) #[] vs∧VRL G I cap vs.toList
 | .nilfn,v=>v= .nilFunc
 | .nilif,v=>v= .nilIface
 | .bwd f x,v=>∃ b y,v= .func (.func f) #[] #[.pointer (some ⟨b,0,none⟩)]∧I b 0=some y∧VR G I x y
def VRL (G:Ghost) (I:Imm):List AV→List Value→Prop
 | [],vs=>vs=[]
 | x::xs,vs=>∃ v ws,vs=v::ws∧VR G I x v∧VRL G I xs ws
def RowI (G:Ghost) (I:Imm):List AV→Nat→Nat→Nat→Prop
 | [],_,_,_=>True
 | .agg cs::xs,b,o,e=>cs.length=e∧CellsI G I cs b o∧RowI G I xs b (o + e) e
 | x::xs,b,o,e=>e=1∧(∃ v,I b o=some v∧VR G I x v)∧RowI G I xs b (o + e) e
def CellsI (G:Ghost) (I:Imm):List AV→Nat→Nat→Prop
 | [],_,_=>True
 | c::cs,b,o=>(∃ v,I b o=some v∧VR G I c v)∧CellsI G I cs b (o + 1)
end
theorem z7u {x:AV} (h:∀ cs,x≠ .agg cs):x.cells=[x]:=by
 cases x <;> first | rfl | exact absurd rfl (h _)
theorem j4r {G:Ghost} {I:Imm} {b o e:Nat}:RowI G I [] b o e:=by simp[RowI]
theorem q3k {G:Ghost} {I:Imm} {b o:Nat}:CellsI G I [] b o:=by simp[CellsI]
theorem q1h {G:Ghost} {I:Imm} {c:AV} {cs:List AV} {b o:Nat}:
  CellsI G I (c::cs) b o↔(∃ v,I b o=some v∧VR G I c v)∧CellsI G I cs b (o + 1):=by
 rw[CellsI]
theorem x8f {G:Ghost} {I:Imm} {x:AV} {xs:List AV} {b o e:Nat}:
  RowI G I (x::xs) b o e↔x.cells.length=e∧CellsI G I x.cells b o∧RowI G I xs b (o + e) e:=by
 cases x <;> simp only[RowI,AV.cells,q1h,q3k,List.length_cons,List.length_nil,and_true,Nat.zero_add,eq_comm (a:=1)]
theorem z7n {G:Ghost} {I:Imm} {cs:List AV}:∀ {b o:Nat},
  CellsI G I cs b o↔∀ i c,cs[i]? =some c→∃ v,I b (o + i)=some v∧VR G I c v:=by
 induction cs with
 | nil=>intro b o;simp[CellsI]
 | cons c cs ih=>
   intro b o
   rw[q1h,ih]
   constructor
   ·rintro ⟨h1,h2⟩ i x hx
    cases i with
    | zero=>simp at hx;subst hx;exact h1
    | succ i=>simp at hx;have:=h2 i x hx;rwa [show o + (i + 1)=o + 1 + i by omega]
   ·intro h
    refine⟨h 0 c rfl,fun i x hx=> ?_⟩
    have:=h (i + 1) x (by simpa using hx)
    rwa [show o + (i + 1)=o + 1 + i by omega] at this
theorem z6l {G:Ghost} {I:Imm} {xs:List AV}:∀ {b o e:Nat},
  RowI G I xs b o e↔∀ k x,xs[k]? =some x→x.cells.length=e∧CellsI G I x.cells b (o + k * e):=by
 induction xs with
 | nil=>intro b o e;simp[RowI]
 | cons x xs ih=>
   intro b o e
   rw[x8f,ih]
   constructor
   ·rintro ⟨h1,h2,h3⟩ k y hy
    cases k with
    | zero=>simp at hy;subst hy;simpa using ⟨h1,h2⟩
    | succ k=>
      simp at hy
      have:=h3 k y hy
      rwa [show o + (k + 1) * e=o + e + k * e by rw[Nat.add_mul];omega]
   ·intro h
    have h0:=h 0 x rfl
    refine⟨h0.1,by simpa using h0.2,fun k y hy=> ?_⟩
    have:=h (k + 1) y (by simpa using hy)
    rwa [show o + (k + 1) * e=o + e + k * e by rw[Nat.add_mul];omega] at this
theorem q0e {G:Ghost} {I:Imm} {xs:List AV}:∀ {vs:List Value},
  VRL G I xs vs↔xs.length=vs.length∧∀ (i:Nat) x v,xs[i]? =some x→vs[i]? =some v→VR G I x v:=by
 induction xs with
 | nil=>intro vs;cases vs <;> simp[VRL]
 | cons x xs ih=>
   intro vs
   cases vs with
   | nil=>simp[VRL]
   | cons v vs=>
     simp only[VRL,List.cons.injEq]
     constructor
     ·rintro ⟨v',ws,⟨rfl,rfl⟩,h1,h2⟩
      obtain⟨h3,h4⟩:=ih.1 h2
      refine⟨by simp[h3],fun i y u hy hu=> ?_⟩
      cases i with
      | zero=>simp at hy hu;subst hy hu;exact h1
      | succ i=>simp at hy hu;exact h4 i y u hy hu
     ·rintro ⟨h1,h2⟩
      refine⟨v,vs,⟨rfl,rfl⟩,h2 0 x v rfl rfl,ih.2 ⟨by simpa using h1,fun i y u hy hu=>h2 (i + 1) y u (by simpa using hy) (by simpa using hu)⟩⟩
def GLe (G G':Ghost):Prop:=∀ g i,G g=some i→G' g=some i
def ILe (I I':Imm):Prop:=∀ b o v,I b o=some v→I' b o=some v
theorem GLe.refl (G:Ghost):GLe G G:=fun _ _ h=>h
theorem ILe.refl (I:Imm):ILe I I:=fun _ _ _ h=>h
theorem GLe.trans {G G' G'':Ghost} (h:GLe G G') (h':GLe G' G''):GLe G G'':=fun g i hi=>h' g i (h g i hi)
theorem ILe.trans {I I' I'':Imm} (h:ILe I I') (h':ILe I' I''):ILe I I'':=fun b o v hv=>h' b o v (h b o v hv)
theorem TipR.mono {G G':Ghost} (hG:GLe G G') {t:Tip} {A:Option Addr} {xs:List AV} {c:Nat} (h:TipR G t A xs c):TipR G' t A xs c:=by
 cases t with
 | no=>exact h
 | full=>exact h
 | nn=>exact h
 | nil=>exact h
 | «at» s g=>
   obtain⟨i,hi,h⟩:=h
   exact⟨i,hG _ _ hi,h⟩
mutual
theorem VR.mono {G G':Ghost} {I I':Imm} (hG:GLe G G') (hI:ILe I I'):∀ {x:AV} {v:Value},VR G I x v→VR G' I' x v
 | .undef,_,_=>by simp[VR]
 | .int ..,_,h=>by simpa [VR] using h
 | .bool _,_,h=>by simpa [VR] using h
 | .str _,_,h=>by simpa only[VR] using h
 | .agg _,_,h=>by
   simp only[VR] at h⊢
   obtain⟨vs,rfl,h⟩:=h
   exact⟨vs,rfl,VRL.mono hG hI h⟩
 | .tup _,_,h=>by
   simp only[VR] at h⊢
   obtain⟨vs,rfl,h⟩:=h
   exact⟨vs,rfl,VRL.mono hG hI h⟩
 | .sl xs t,_,h=>by
   simp only[VR] at h⊢
   obtain⟨A,n,c,rfl,h1,h2,h3,h4⟩:=h
   refine⟨A,n,c,rfl,h1,h2,h3.mono hG, ?_⟩
   rcases h4 with h4 | ⟨b,o,e,h5,h6,h7⟩
   ·exact .inl h4
   ·exact .inr ⟨b,o,e,h5,h6,RowI.mono hG hI h7⟩
 | .ob ..,_,h=>by
   simp only[VR] at h⊢
   obtain⟨i,A,c,h1,h2⟩:=h
   exact⟨i,A,c,hG _ _ h1,h2⟩
 | .ptr ..,_,h=>by
   simp only[VR] at h⊢
   obtain⟨i,h1,h2⟩:=h
   exact⟨i,hG _ _ h1,h2⟩
 | .iptr _ _,_,h=>by
   simp only[VR] at h⊢
   obtain⟨b,p,rfl,h⟩:=h
   exact⟨b,p,rfl,CellsI.mono hG hI h⟩
 | .nilptr,_,h=>by simpa [VR] using h
 | .mp ..,_,h=>by
   simp only[VR] at h⊢
   obtain⟨i,h1,h2⟩:=h
   exact⟨i,hG _ _ h1,h2⟩
 | .nilmap,_,h=>by simpa [VR] using h
 | .fn _ _,_,h=>by
   simp only[VR] at h⊢
   obtain⟨vs,rfl,h⟩:=h
   exact⟨vs,rfl,VRL.mono hG hI h⟩
 | .nilfn,_,h=>by simpa [VR] using h
 | .nilif,_,h=>by simpa [VR] using h
 | .bwd _ _,_,h=>by
   simp only[VR] at h⊢
   obtain⟨b,y,rfl,h1,h2⟩:=h
   exact⟨b,y,rfl,hI _ _ _ h1,VR.mono hG hI h2⟩
theorem VRL.mono {G G':Ghost} {I I':Imm} (hG:GLe G G') (hI:ILe I I'):∀ {xs:List AV} {vs:List Value},VRL G I xs vs→VRL G' I' xs vs
 | [],_,h=>by simpa [VRL] using h
 | _::_,_,h=>by
   simp only[VRL] at h⊢
   obtain⟨v,ws,rfl,h1,h2⟩:=h
   exact⟨v,ws,rfl,VR.mono hG hI h1,VRL.mono hG hI h2⟩
theorem RowI.mono {G G':Ghost} {I I':Imm} (hG:GLe G G') (hI:ILe I I'):∀ {xs:List AV} {b o e:Nat},RowI G I xs b o e→RowI G' I' xs b o e
 | [],_,_,_,_=>j4r
 | .agg _::_,_,_,_,h=>by
   simp only[RowI] at h⊢
   exact⟨h.1,CellsI.mono hG hI h.2.1,RowI.mono hG hI h.2.2⟩
 | .undef::_,_,_,_,h=>by
   simp only[RowI] at h⊢
   obtain⟨h1,⟨v,h2,h3⟩,h4⟩:=h
   exact⟨h1,⟨v,hI _ _ _ h2,VR.mono hG hI h3⟩,RowI.mono hG hI h4⟩
 | .int .. ::_,_,_,_,h=>by
   simp only[RowI] at h⊢
   obtain⟨h1,⟨v,h2,h3⟩,h4⟩:=h
   exact⟨h1,⟨v,hI _ _ _ h2,VR.mono hG hI h3⟩,RowI.mono hG hI h4⟩
 | .bool _::_,_,_,_,h=>by
   simp only[RowI] at h⊢
   obtain⟨h1,⟨v,h2,h3⟩,h4⟩:=h
   exact⟨h1,⟨v,hI _ _ _ h2,VR.mono hG hI h3⟩,RowI.mono hG hI h4⟩
 | .str _::_,_,_,_,h=>by
   simp only[RowI] at h⊢
   obtain⟨h1,⟨v,h2,h3⟩,h4⟩:=h
   exact⟨h1,⟨v,hI _ _ _ h2,VR.mono hG hI h3⟩,RowI.mono hG hI h4⟩
 | .tup _::_,_,_,_,h=>by
   simp only[RowI] at h⊢
   obtain⟨h1,⟨v,h2,h3⟩,h4⟩:=h
   exact⟨h1,⟨v,hI _ _ _ h2,VR.mono hG hI h3⟩,RowI.mono hG hI h4⟩
 | .sl _ _::_,_,_,_,h=>by
   simp only[RowI] at h⊢
   obtain⟨h1,⟨v,h2,h3⟩,h4⟩:=h
   exact⟨h1,⟨v,hI _ _ _ h2,VR.mono hG hI h3⟩,RowI.mono hG hI h4⟩
 | .ob .. ::_,_,_,_,h=>by
   simp only[RowI] at h⊢
   obtain⟨h1,⟨v,h2,h3⟩,h4⟩:=h
   exact⟨h1,⟨v,hI _ _ _ h2,VR.mono hG hI h3⟩,RowI.mono hG hI h4⟩
 | .ptr .. ::_,_,_,_,h=>by
   simp only[RowI] at h⊢
   obtain⟨h1,⟨v,h2,h3⟩,h4⟩:=h
   exact⟨h1,⟨v,hI _ _ _ h2,VR.mono hG hI h3⟩,RowI.mono hG hI h4⟩
 | .iptr _ _::_,_,_,_,h=>by
   simp only[RowI] at h⊢
   obtain⟨h1,⟨v,h2,h3⟩,h4⟩:=h
   exact⟨h1,⟨v,hI _ _ _ h2,VR.mono hG hI h3⟩,RowI.mono hG hI h4⟩
 | .nilptr::_,_,_,_,h=>by
   simp only[RowI] at h⊢
   obtain⟨h1,⟨v,h2,h3⟩,h4⟩:=h
   exact⟨h1,⟨v,hI _ _ _ h2,VR.mono hG hI h3⟩,RowI.mono hG hI h4⟩
 | .mp .. ::_,_,_,_,h=>by
   simp only[RowI] at h⊢
   obtain⟨h1,⟨v,h2,h3⟩,h4⟩:=h
   exact⟨h1,⟨v,hI _ _ _ h2,VR.mono hG hI h3⟩,RowI.mono hG hI h4⟩
 | .nilmap::_,_,_,_,h=>by
   simp only[RowI] at h⊢
   obtain⟨h1,⟨v,h2,h3⟩,h4⟩:=h
   exact⟨h1,⟨v,hI _ _ _ h2,VR.mono hG hI h3⟩,RowI.mono hG hI h4⟩
 | .fn _ _::_,_,_,_,h=>by
   simp only[RowI] at h⊢
   obtain⟨h1,⟨v,h2,h3⟩,h4⟩:=h
   exact⟨h1,⟨v,hI _ _ _ h2,VR.mono hG hI h3⟩,RowI.mono hG hI h4⟩
 | .nilfn::_,_,_,_,h=>by
   simp only[RowI] at h⊢
   obtain⟨h1,⟨v,h2,h3⟩,h4⟩:=h
   exact⟨h1,⟨v,hI _ _ _ h2,VR.mono hG hI h3⟩,RowI.mono hG hI h4⟩
 | .nilif::_,_,_,_,h=>by
   simp only[RowI] at h⊢
   obtain⟨h1,⟨v,h2,h3⟩,h4⟩:=h
   exact⟨h1,⟨v,hI _ _ _ h2,VR.mono hG hI h3⟩,RowI.mono hG hI h4⟩
 | .bwd _ _::_,_,_,_,h=>by
   simp only[RowI] at h⊢
   obtain⟨h1,⟨v,h2,h3⟩,h4⟩:=h
   exact⟨h1,⟨v,hI _ _ _ h2,VR.mono hG hI h3⟩,RowI.mono hG hI h4⟩
theorem CellsI.mono {G G':Ghost} {I I':Imm} (hG:GLe G G') (hI:ILe I I'):∀ {cs:List AV} {b o:Nat},CellsI G I cs b o→CellsI G' I' cs b o
 | [],_,_,_=>q3k
 | _::_,_,_,h=>by
   simp only[CellsI] at h⊢
   obtain⟨⟨v,h1,h2⟩,h3⟩:=h
   exact⟨⟨v,hI _ _ _ h1,VR.mono hG hI h2⟩,CellsI.mono hG hI h3⟩
end
def own (G:Ghost):AObj→Option Nat
 | .dead=>none
 | .blk g .. =>(G g).map (·.blk)
 | .tip g _=>(G g).bind fun i=>if i.room then some i.blk else none
 | .map g _=>(G g).map (·.blk)
def ElemsR (G:Ghost) (I:Imm) (es:List AV) (cs:Array Value) (e:Nat):Prop:=
 ∀ k x,es[k]? =some x→x.cells.length=e∧∀ j c,x.cells[j]? =some c→∃ v,cs[k * e + j]? =some v∧VR G I c v
def MapR (G:Ghost) (I:Imm):List (AV×AV)→List MapEntry→Prop
 | [],es=>es=[]
 | x::xs,es=>∃ e rest,es=e::rest∧VR G I x.1 e.key∧VR G I x.2 e.val∧MapR G I xs rest
def ObjR (G:Ghost) (I:Imm) (w:World) (slot:Nat):AObj→Prop
 | .dead=>True
 | .blk g es row grow fz=>∃ i cs t,G g=some i∧i.slot=slot∧w.heap[i.blk]? =some (.cells cs t (0,0))∧cs.size=i.cap * i.esz∧0 < i.esz∧
  es.length≤i.cap∧(grow=false→es.length=i.cap)∧(fz≤es.length∧(row=false→fz=0))∧ElemsR G I es cs i.esz∧∀ o v,I i.blk o=some v→o < fz * i.esz
 | .tip g e=>∃ i,G g=some i∧i.slot=slot∧i.esz=e∧(i.room=true→
  ∃ cs t,w.heap[i.blk]? =some (.cells cs t (0,0))∧i.capE≤cs.size∧∀ o v,I i.blk o=some v→o < i.endp)
 | .map g es=>∃ i ents clk,G g=some i∧i.slot=slot∧w.heap[i.blk]? =some (.map ents clk)∧MapR G I es ents.toList
structure Rel (G:Ghost) (I:Imm) (h:List AObj) (w:World):Prop where
 imm:∀ b o v,I b o=some v→w.cell? ⟨b,o,none⟩=some v
 obj:∀ (i:Nat) o,h[i]? =some o→ObjR G I w i o
 inj:∀ (i j:Nat) oi oj b,h[i]? =some oi→h[j]? =some oj→own G oi=some b→own G oj=some b→i=j
theorem MapR.mono {G G':Ghost} {I I':Imm} (hG:GLe G G') (hI:ILe I I'):∀ {xs:List (AV×AV)} {es:List MapEntry},MapR G I xs es→MapR G' I' xs es
 | [],_,h=>h
 | _::_,_,h=>by
   obtain⟨e,rest,rfl,h1,h2,h3⟩:=h
   exact⟨e,rest,rfl,VR.mono hG hI h1,VR.mono hG hI h2,MapR.mono hG hI h3⟩
theorem ElemsR.mono {G G':Ghost} {I I':Imm} (hG:GLe G G') (hI:ILe I I') {es:List AV} {cs:Array Value} {e:Nat} (h:ElemsR G I es cs e):ElemsR G' I' es cs e:=
 fun k x hx=>⟨(h k x hx).1,fun j c hc=>let ⟨v,hv,hr⟩:=(h k x hx).2 j c hc;⟨v,hv,VR.mono hG hI hr⟩⟩
theorem ObjR.ext {G G':Ghost} {I:Imm} {w:World} {s:Nat} {o:AObj} (hG:GLe G G') (h:ObjR G I w s o):ObjR G' I w s o:=by
 cases o with
 | dead=>trivial
 | blk g es row grow fz=>
   obtain⟨i,cs,t,h1,h2,h3,h4,h5,h6,h7,h8,h9,h10⟩:=h
   exact⟨i,cs,t,hG _ _ h1,h2,h3,h4,h5,h6,h7,h8,h9.mono hG (ILe.refl _),h10⟩
 | tip g e=>
   obtain⟨i,h1,h2⟩:=h
   exact⟨i,hG _ _ h1,h2⟩
 | map g es=>
   obtain⟨i,ents,clk,h1,h2,h3,h4⟩:=h
   exact⟨i,ents,clk,hG _ _ h1,h2,h3,h4.mono hG (ILe.refl _)⟩
theorem q1i {G G':Ghost} {I:Imm} {w:World} {s:Nat} {o:AObj} (hG:GLe G G') (h:ObjR G I w s o):own G' o=own G o:=by
 cases o with
 | dead=>rfl
 | blk g es row grow fz=>
   obtain⟨i,cs,t,h1,_⟩:=h
   simp[own,h1,hG _ _ h1]
 | tip g e=>
   obtain⟨i,h1,_⟩:=h
   simp[own,h1,hG _ _ h1]
 | map g es=>
   obtain⟨i,ents,clk,h1,_⟩:=h
   simp[own,h1,hG _ _ h1]
theorem Rel.ext {G G':Ghost} {I:Imm} {h:List AObj} {w:World} (hG:GLe G G') (r:Rel G I h w):Rel G' I h w:=
 ⟨r.imm,fun i o ho=>(r.obj i o ho).ext hG,fun i j oi oj b hi hj h1 h2=>
  r.inj i j oi oj b hi hj (by rwa [q1i hG (r.obj i oi hi)] at h1) (by rwa [q1i hG (r.obj j oj hj)] at h2)⟩
theorem q2l {G:Ghost} {I:Imm} {w:World} {s b:Nat} {o:AObj} (h:ObjR G I w s o) (ho:own G o=some b):∃ x,w.heap[b]? =some x:=by
 cases o with
 | dead=>simp[own] at ho
 | blk g es row grow fz=>
   obtain⟨i,cs,t,h1,_,h3,_⟩:=h
   simp[own,h1] at ho
   subst ho
   exact⟨_,h3⟩
 | tip g e=>
   obtain⟨i,h1,_,_,h3⟩:=h
   simp[own,h1] at ho
   obtain⟨hr,rfl⟩:=ho
   obtain⟨cs,t,h4,_⟩:=h3 hr
   exact⟨_,h4⟩
 | map g es=>
   obtain⟨i,ents,clk,h1,_,h3,_⟩:=h
   simp[own,h1] at ho
   subst ho
   exact⟨_,h3⟩
theorem q0n {G:Ghost} {I:Imm} {w:World} {s b:Nat} {o:AObj} (h:ObjR G I w s o) (ho:own G o=some b):b < w.heap.size:=by
 obtain⟨x,hx⟩:=q2l h ho
 exact (Array.getElem?_eq_some_iff.1 hx).1
theorem ObjR.world {G:Ghost} {I:Imm} {w w':World} {s:Nat} {o:AObj} (h:ObjR G I w s o) (hk:∀ b,own G o=some b→w'.heap[b]? =w.heap[b]?):ObjR G I w' s o:=by
 cases o with
 | dead=>trivial
 | blk g es row grow fz=>
   obtain⟨i,cs,t,h1,h2,h3,h4⟩:=h
   exact⟨i,cs,t,h1,h2,by rw[hk _ (by simp[own,h1])];exact h3,h4⟩
 | tip g e=>
   obtain⟨i,h1,h2,h2',h3⟩:=h
   refine⟨i,h1,h2,h2',fun hr=> ?_⟩
   obtain⟨cs,t,h4,h5⟩:=h3 hr
   exact⟨cs,t,by rw[hk _ (by simp[own,h1,hr])];exact h4,h5⟩
 | map g es=>
   obtain⟨i,ents,clk,h1,h2,h3,h4⟩:=h
   exact⟨i,ents,clk,h1,h2,by rw[hk _ (by simp[own,h1])];exact h3,h4⟩
theorem z5h {w w':World} {a:Addr} {v:Value} (h:w.cell? a=some v) (hk:∀ x,w.heap[a.block]? =some x→w'.heap[a.block]? =some x):w'.cell? a=some v:=by
 unfold World.cell? at h⊢
 cases hb:w.heap[a.block]? with
 | none=>simp[hb] at h
 | some x=>rw[hk x hb];rw[hb] at h;exact h
theorem Rel.world {G:Ghost} {I:Imm} {h:List AObj} {w w':World} (r:Rel G I h w) (hk:∀ (b:Nat) (x:Obj),w.heap[b]? =some x→w'.heap[b]? =some x):Rel G I h w':=
 ⟨fun b o v hv=>z5h (r.imm b o v hv) (hk _),fun i o ho=>(r.obj i o ho).world fun b hb=>by
  obtain⟨x,hx⟩:=q2l (r.obj i o ho) hb
  rw[hx,hk _ _ hx],r.inj⟩
theorem getElem?_set_cases {α:Type} {l:List α} {i j:Nat} {a b:α} (h:(l.set i a)[j]? =some b):(j=i∧b=a)∨(j≠i∧l[j]? =some b):=by
 rw[List.getElem?_set] at h
 by_cases hij:i=j
 ·subst hij
  by_cases hl:i < l.length
  ·simp[hl] at h
   exact .inl ⟨rfl,h.symm⟩
  ·simp[hl] at h
 ·simp[hij] at h
  exact .inr ⟨fun e=>hij e.symm,h⟩
theorem Rel.set {G:Ghost} {I:Imm} {h:List AObj} {w:World} (r:Rel G I h w) (s:Nat) (o:AObj) (ho:ObjR G I w s o)
  (hd:∀ (j:Nat) oj b,j≠s→h[j]? =some oj→own G oj=some b→own G o=some b→False):Rel G I (h.set s o) w:=by
 refine⟨r.imm,fun i x hx=> ?_,fun i j oi oj b hi hj h1 h2=> ?_⟩
 ·rcases getElem?_set_cases hx with ⟨rfl,rfl⟩ | ⟨_,hx⟩
  ·exact ho
  ·exact r.obj i x hx
 ·rcases getElem?_set_cases hi with ⟨hi1,hi2⟩ | ⟨hi1,hi2⟩ <;> rcases getElem?_set_cases hj with ⟨hj1,hj2⟩ | ⟨hj1,hj2⟩
  ·rw[hi1,hj1]
  ·subst hi2
   exact (hd j oj b hj1 hj2 h2 h1).elim
  ·subst hj2
   exact (hd i oi b hi1 hi2 h1 h2).elim
  ·exact r.inj i j oi oj b hi2 hj2 h1 h2
theorem Rel.kill {G:Ghost} {I:Imm} {h:List AObj} {w:World} (r:Rel G I h w) (s:Nat):Rel G I (h.set s .dead) w:=
 r.set s .dead trivial (fun _ _ _ _ _ _ h=>by simp[own] at h)
structure Fr (G:Ghost) (h:List AObj) (w w':World):Prop where
 os:w'.os=w.os
 tape:w'.tape=w.tape
 output:w'.output=w.output
 size:w.heap.size≤w'.heap.size
 kept:∀ b,b < w.heap.size→(∀ (i:Nat) o,h[i]? =some o→own G o≠some b)→w'.heap[b]? =w.heap[b]?
theorem Fr.refl (G:Ghost) (h:List AObj) (w:World):Fr G h w w:=⟨rfl,rfl,rfl,Nat.le_refl _,fun _ _ _=>rfl⟩
theorem Fr.drew {G:Ghost} {h:List AObj} {w w':World} (f:Fr G h w w'):Fr G h w w'.drew:=⟨f.os,f.tape,f.output,f.size,f.kept⟩
def OwnLe (G:Ghost) (h:List AObj) (w:World) (G':Ghost) (h':List AObj):Prop:=
 ∀ (i:Nat) o b,h'[i]? =some o→own G' o=some b→(∃ (j:Nat) (x:AObj),h[j]? =some x∧own G x=some b)∨w.heap.size≤b
theorem Fr.trans {G G':Ghost} {h h':List AObj} {w w' w'':World} (f:Fr G h w w') (ho:OwnLe G h w G' h') (f':Fr G' h' w' w''):Fr G h w w'':=
 ⟨f'.os.trans f.os,f'.tape.trans f.tape,f'.output.trans f.output,Nat.le_trans f.size f'.size,fun b hb hn=>by
  rw[f'.kept b (Nat.lt_of_lt_of_le hb f.size) (fun i o hi hw=> ?_),f.kept b hb hn]
  rcases ho i o b hi hw with ⟨j,x,hj,hx⟩ | hge
  ·exact hn j x hj hx
  ·omega⟩
theorem OwnLe.refl (G:Ghost) (h:List AObj) (w:World):OwnLe G h w G h:=fun i o _ hi hb=> .inl ⟨i,o,hi,hb⟩
theorem OwnLe.trans {G G' G'':Ghost} {h h' h'':List AObj} {w w':World} (a:OwnLe G h w G' h') (hs:w.heap.size≤w'.heap.size) (b:OwnLe G' h' w' G'' h''):OwnLe G h w G'' h'':=
 fun i o k hi hk=>by
  rcases b i o k hi hk with ⟨j,x,hj,hx⟩ | hge
  ·exact a j x k hj hx
  ·exact .inr (Nat.le_trans hs hge)
def IFr (G:Ghost) (h:List AObj) (w:World) (I I':Imm):Prop:=
 ∀ b,b < w.heap.size→(∀ (i:Nat) o,h[i]? =some o→own G o≠some b)→∀ o v,I' b o=some v→I b o=some v
theorem IFr.refl {G:Ghost} {h:List AObj} {w:World} {I:Imm}:IFr G h w I I:=fun _ _ _ _ _ hv=>hv
theorem IFr.trans {G G':Ghost} {h h':List AObj} {w w':World} {I I' I'':Imm} (a:IFr G h w I I') (ho:OwnLe G h w G' h') (hs:w.heap.size≤w'.heap.size) (b:IFr G' h' w' I' I''):IFr G h w I I'':=
 fun k hk hn o v hv=>a k hk hn o v (b k (Nat.lt_of_lt_of_le hk hs) (fun i x hi hx=>by
  rcases ho i x k hi hx with ⟨j,y,hj,hy⟩ | hge
  ·exact hn j y hj hy
  ·omega) o v hv)
section
def Step (G:Ghost) (I:Imm) (h:List AObj) (w:World) (gen slot:Nat) (r:Result Next) (v:AV) (h':List AObj):Prop:=
 ∃ nx cv w' G' I',r= .ok nx w'∧(nx= .value cv∨(nx= .skip∧cv=undef))∧VR G' I' v cv∧Rel G' I' h' w'∧GLe G G'∧ILe I I'∧
   (∀ g,g≠gen→G' g=G g)∧(∀ i,G' gen=some i→i.slot=slot)∧OwnLe G h w G' h'∧Fr G h w w'∧IFr G h w I I'
section
variable {P:Program} {G:Ghost} {I:Imm} {h:List AObj} {w:World} {gen slot:Nat}
theorem Step.pure {r:Result Next} {v:AV} {cv:Value} (hg:G gen=none) (rel:Rel G I h w) (hr:r= .ok (.value cv) w) (hv:VR G I v cv):Step G I h w gen slot r v h:=
 ⟨_,cv,w,G,I,hr, .inl rfl,hv,rel,GLe.refl _,ILe.refl _,fun _ _=>rfl,fun i hi=>by simp[hg] at hi,OwnLe.refl _ _ _,Fr.refl _ _ _,IFr.refl⟩
theorem Step.quiet {r:Result Next} {v:AV} {cv:Value} {w':World} {I':Imm} (hg:G gen=none) (rel:Rel G I' h w') (hI:ILe I I') (hr:r= .ok (.value cv) w') (hv:VR G I' v cv) (hf:Fr G h w w') (hi:IFr G h w I I'):Step G I h w gen slot r v h:=
 ⟨_,cv,w',G,I',hr, .inl rfl,hv,rel,GLe.refl _,hI,fun _ _=>rfl,fun i hi=>by simp[hg] at hi,OwnLe.refl _ _ _,hf,hi⟩
theorem z7s (w:World) (o:Obj):(w.alloc o).heap[w.heap.size]? =some o:=by
 show (w.heap.push o)[w.heap.size]? =some o
 simp
theorem q9m (w:World) (o:Obj) {b:Nat} (hb:b < w.heap.size):(w.alloc o).heap[b]? =w.heap[b]? :=by
 show (w.heap.push o)[b]? =w.heap[b]?
 simp[Array.getElem?_push,Nat.ne_of_lt hb]
theorem z6r (w:World) (o:Obj):(w.alloc o).heap.size=w.heap.size + 1:=by
 show (w.heap.push o).size=w.heap.size + 1
 simp
theorem z3b (w:World) (o:Obj) {b:Nat} {x:Obj} (hb:w.heap[b]? =some x):(w.alloc o).heap[b]? =some x:=by
 rw[q9m w o (Array.getElem?_eq_some_iff.1 hb).1,hb]
theorem Fr.alloc {w':World} (f:Fr G h w w') (o:Obj):Fr G h w (w'.alloc o):=
 ⟨f.os,f.tape,f.output,by have:=f.size;rw[z6r];omega,fun b hb hn=>by
  rw[q9m w' o (Nat.lt_of_lt_of_le hb f.size)]
  exact f.kept b hb hn⟩
def Ghost.put (G:Ghost) (g:Nat) (i:GInfo):Ghost:=fun k=>if k=g then some i else G k
theorem Ghost.put_le {G:Ghost} {g:Nat} (i:GInfo) (hg:G g=none):GLe G (G.put g i):=fun k j hk=>by
 unfold Ghost.put
 split
 ·rename_i e;subst e;simp[hg] at hk
 ·exact hk
@[simp] theorem Ghost.put_same {G:Ghost} {g:Nat} {i:GInfo}:G.put g i g=some i:=by simp[Ghost.put]
theorem Ghost.put_other {G:Ghost} {g k:Nat} {i:GInfo} (hk:k≠g):G.put g i k=G k:=by simp[Ghost.put,hk]
theorem Rel.new {G':Ghost} {w':World} {o:AObj} (r:Rel G I h w) (hG:GLe G G') (hk:∀ (b:Nat) (x:Obj),w.heap[b]? =some x→w'.heap[b]? =some x)
  (ho:ObjR G' I w' slot o) (hb:∀ b,own G' o=some b→w.heap.size≤b):Rel G' I (h.set slot o) w':=
 ((r.world hk).ext hG).set slot o ho fun j oj b _ hj h1 h2=>by
   rw[q1i hG ((r.world hk).obj j oj hj)] at h1
   have:=q0n (r.obj j oj hj) h1
   have:=hb b h2
   omega
theorem OwnLe.new {G':Ghost} {o:AObj} (r:Rel G I h w) (hG:GLe G G') (hb:∀ b,own G' o=some b→w.heap.size≤b):OwnLe G h w G' (h.set slot o):=
 fun i x b hi hx=>by
  rcases getElem?_set_cases hi with ⟨_,rfl⟩ | ⟨_,hi⟩
  ·exact .inr (hb b hx)
  ·rw[q1i hG (r.obj i x hi)] at hx
   exact .inl ⟨i,x,hi,hx⟩
theorem q0o {x:AV} {cv:Value} (hd:x.def? =true) (hv:VR G I x cv):x.cells.length=cv.cells.size∧∀ (j:Nat) c,x.cells[j]? =some c→∃ v,cv.cells[j]? =some v∧VR G I c v:=by
 by_cases ha:∃ cs,x= .agg cs
 ·obtain⟨cs,rfl⟩:=ha
  simp only[VR] at hv
  obtain⟨vs,rfl,hv⟩:=hv
  obtain⟨h1,h2⟩:=q0e.1 hv
  refine⟨by simpa [AV.cells,Value.cells] using h1,fun j c hc=> ?_⟩
  simp only[AV.cells] at hc
  have hj:j < vs.toList.length:=by
   rw[←h1]
   exact (List.getElem?_eq_some_iff.1 hc).1
  refine⟨vs.toList[j], ?_,h2 j c _ hc (List.getElem?_eq_getElem hj)⟩
  simp only[Value.cells]
  rw[←Array.getElem?_toList]
  exact List.getElem?_eq_getElem hj
 ·have hn:∀ cs,x≠ .agg cs:=fun cs e=>ha ⟨cs,e⟩
  have hc:cv.cells= #[cv]:=by
   cases x <;> simp only[VR] at hv <;> first
    | exact absurd rfl (hn _)
    | (simp[AV.def?] at hd;done)
    | (subst hv;rfl)
    | (obtain⟨rfl,_⟩:=hv;rfl)
    | (obtain⟨_,_,_,rfl,_⟩:=hv;rfl)
    | (obtain⟨_,_,_,_,_,rfl,_⟩:=hv;rfl)
    | (obtain⟨_,_,_,rfl⟩:=hv;rfl)
    | (obtain⟨_,_,rfl,_⟩:=hv;rfl)
    | (obtain⟨_,rfl,_⟩:=hv;rfl)
  rw[z7u hn,hc]
  refine⟨rfl,fun j c hj=> ?_⟩
  cases j with
  | zero=>simp at hj;subst hj;exact⟨cv,rfl,hv⟩
  | succ j=>simp at hj
theorem j4s {r:Result Next} {x:AV} {cv:Value} {t:TypeId} (hg:G gen=none) (rel:Rel G I h w) (hd:x.def? =true) (hne:x.cells≠[]) (hv:VR G I x cv)
  (hr:r= .ok (.value (.pointer (some ⟨w.heap.size,0,none⟩))) (w.alloc (.cells cv.cells t))):
  Step G I h w gen slot r (.ptr slot gen 0 0) (h.set slot (.blk gen [x] false false 0)):=by
 obtain⟨hl,hc⟩:=q0o hd hv
 have hG:=Ghost.put_le (G:=G) (g:=gen) ⟨slot,w.heap.size,cv.cells.size,1,0,0,false⟩ hg
 have hpos:0 < cv.cells.size:=by
  rw[←hl]
  exact List.length_pos_iff.2 hne
 have hob:∀ b,own (G.put gen ⟨slot,w.heap.size,cv.cells.size,1,0,0,false⟩) (.blk gen [x] false false 0)=some b→w.heap.size≤b:=by
  intro b hb
  simp[own] at hb
  omega
 refine⟨_,_,_,_,I,hr, .inl rfl, ?_,rel.new hG (fun b y hb=>z3b w _ hb) ?_ hob,hG,ILe.refl _,fun g hg'=>Ghost.put_other hg',fun i hi=> ?_,OwnLe.new rel hG hob,(Fr.refl _ _ _).alloc _,IFr.refl⟩
 ·simp only[VR]
  exact⟨_,Ghost.put_same,rfl,by simp⟩
 ·refine⟨_,cv.cells,t,Ghost.put_same,rfl,z7s w _,by simp,hpos,by simp,fun _=>by simp,⟨by simp,fun _=>rfl⟩, ?_,fun o v ho=> ?_⟩
  ·intro k y hk
   cases k with
   | zero=>
     simp at hk
     subst hk
     refine⟨hl,fun j c hj=> ?_⟩
     obtain⟨v,hv1,hv2⟩:=hc j c hj
     exact⟨v,by simpa using hv1,VR.mono hG (ILe.refl _) hv2⟩
   | succ k=>simp at hk
  ·have:=rel.imm _ _ _ ho
   have:=World.block_lt_of_cell? w _ this
   simp at this
 ·simp at hi
  subst hi
  rfl
def j8f:TypeDesc→Bool
 | .struct _ | .array _ _=>true
 | _=>false
theorem q0p {t:TypeId} {d:TypeDesc} (hu:P.underlying t=some d):(isAgg t).run P w= .ok (j8f d) w:=by
 unfold isAgg
 simp only[Sem.run_bind,run_underlying hu,Result.andThen]
 cases d <;> rfl
def v8k (G:Ghost) (I:Imm) (w:World) (b o:Nat) (cells:List AV):Prop:=
 ∀ (j:Nat) c,cells[j]? =some c→∃ cv,w.cell? ⟨b,o + j,none⟩=some cv∧VR G I c cv
theorem q1j {b o off:Nat} {cells:List AV} {t:TypeId} {sz:Option Nat} {v:AV} (hh:v8k G I w b o cells) (hs:z8h P t=some sz) (hr:z1x cells off sz=some v):
  ∃ cv,(loadVar t ⟨b,o + off,none⟩).run P w= .ok cv w∧VR G I v cv:=by
 cases hu:P.underlying t with
 | none=>simp[z8h,hu] at hs
 | some d=>
   have hagg:=q0p (w:=w) hu
   by_cases ha:j8f d=true
   ·obtain⟨n,hn,rfl⟩:∃ n,sizeP P t=some n∧sz=some n:=by
     unfold z8h at hs
     rw[hu] at hs
     cases d <;> simp[j8f] at ha <;> (simp at hs;obtain⟨n,h1,h2⟩:=hs;exact⟨n,h1,h2.symm⟩)
    simp only[z1x] at hr
    split at hr
    ·rename_i hle
     simp only[Option.some.injEq] at hr
     subst hr
     have hl:=run_loadCells (P:=P) w ⟨b,o + off,none⟩ n (fun j=>(w.cell? ⟨b,o + off + j,none⟩).getD undef) (fun j hj=>by
      rw[Addr.add_lit]
      obtain⟨cv,hc,_⟩:=hh (off + j) (cells[off + j]'(by omega)) (List.getElem?_eq_getElem (by omega))
      rw[show o + off + j=o + (off + j) by omega,hc]
      rfl)
     refine⟨.agg ((List.range n).map fun j=>(w.cell? ⟨b,o + off + j,none⟩).getD undef).toArray, ?_, ?_⟩
     ·unfold sizeP at hn
      cases hi:P.info? t with
      | none=>simp[hi] at hn
      | some i=>
        simp[hi] at hn
        simp[loadVar,hagg,ha,sizeOf,typeInfo,hi,hn,hl]
     ·simp only[VR]
      refine⟨_,rfl,q0e.2 ⟨by simp;omega,fun j c u hj hu=> ?_⟩⟩
      simp only[List.getElem?_map] at hu
      have hjn:j < n:=by
       rcases Nat.lt_or_ge j n with hlt | hge
       ·exact hlt
       ·rw[List.getElem?_eq_none (by simpa using hge)] at hu
        simp at hu
      simp[hjn] at hu
      rw[List.getElem?_take_of_lt hjn,List.getElem?_drop] at hj
      obtain⟨cv,hc,hv⟩:=hh (off + j) c hj
      rw[show o + (off + j)=o + off + j by omega] at hc
      rw[hc] at hu
      simp at hu
      subst hu
      exact hv
    ·simp at hr
   ·have hz:sz=none:=by
     unfold z8h at hs
     rw[hu] at hs
     cases d <;> first | (simp[j8f] at ha;done) | (simp at hs;exact hs.symm)
    subst hz
    simp only[z1x] at hr
    obtain⟨cv,hc,hv⟩:=hh off v hr
    have ha':j8f d=false:=by simpa using ha
    exact⟨cv,by simp[loadVar,hagg,ha',hc],hv⟩
theorem z9t {s g:Nat} {es:List AV} {row grow:Bool} {fz:Nat} (hb:z2g h s g=some (es,row,grow,fz)):h[s]? =some (.blk g es row grow fz):=by
 unfold z2g at hb
 split at hb
 ·rename_i heq
  split at hb
  ·rename_i e
   subst e
   simp at hb
   obtain⟨rfl,rfl,rfl,rfl⟩:=hb
   exact heq
  ·simp at hb
 ·simp at hb
theorem x5k {s g:Nat} {es:List (AV×AV)} (hb:z5q h s g=some es):h[s]? =some (.map g es):=by
 unfold z5q at hb
 split at hb
 ·rename_i heq
  split at hb
  ·rename_i e
   subst e
   simp at hb
   subst hb
   exact heq
  ·simp at hb
 ·simp at hb
theorem x3g {i:GInfo} {cs:Array Value} {t:TypeId} {es:List AV} {e:AV} {k:Nat} (hb:w.heap[i.blk]? =some (.cells cs t (0,0))) (hE:ElemsR G I es cs i.esz) (he:es[k]? =some e):v8k G I w i.blk (k * i.esz) e.cells:=fun j c hj=>by
 obtain⟨v,hv,hr⟩:=(hE k e he).2 j c hj
 exact⟨v,by simp[World.cell?,hb,hv],hr⟩
theorem k0w {cells:List AV} {b o:Nat} (rel:Rel G I h w) (hc:CellsI G I cells b o):v8k G I w b o cells:=fun j c hj=>by
 obtain⟨v,hv,hr⟩:=z7n.1 hc j c hj
 exact⟨v,rel.imm _ _ _ hv,hr⟩
theorem k7s {s g k o:Nat} {pa:Value} {t:TypeId} {sz:Option Nat} {es:List AV} {row grow:Bool} {fz:Nat} {e v:AV} (rel:Rel G I h w) (hp:VR G I (.ptr s g k o) pa) (hs:z8h P t=some sz)
  (hb:z2g h s g=some (es,row,grow,fz)) (he:es[k]? =some e) (hr:z1x e.cells o sz=some v):∃ cv,(Instr.loadAt t pa).run P w= .ok cv w∧VR G I v cv:=by
 simp only[VR] at hp
 obtain⟨i,hi,_,rfl⟩:=hp
 obtain⟨i',cs,ty,hi',_,hw,_,_,_,_,_,hE,_⟩:=rel.obj s _ (z9t hb)
 obtain rfl:i=i':=by rw[hi] at hi';simpa using hi'
 obtain⟨cv,hrun,hv⟩:=q1j (x3g hw hE he) hs hr
 exact⟨cv,by simpa [Instr.loadAt,Instr.sureAddr] using hrun,hv⟩
theorem k0x {cs:List AV} {o:Nat} {pa:Value} {t:TypeId} {sz:Option Nat} {v:AV} (rel:Rel G I h w) (hp:VR G I (.iptr cs o) pa) (hs:z8h P t=some sz) (hr:z1x cs o sz=some v):∃ cv,(Instr.loadAt t pa).run P w= .ok cv w∧VR G I v cv:=by
 simp only[VR] at hp
 obtain⟨b,p,rfl,hc⟩:=hp
 obtain⟨cv,hrun,hv⟩:=q1j (k0w rel hc) hs hr
 exact⟨cv,by simpa [Instr.loadAt,Instr.sureAddr] using hrun,hv⟩
end
end
end Go.Proofs.YtkollgjffkdliaaGreatDoor.Am
