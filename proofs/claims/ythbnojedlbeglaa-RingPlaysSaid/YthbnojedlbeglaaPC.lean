/-
  Parts of long tuples.
-/
import Derived.Test.YthbnojedlbeglaaAbNil
namespace Go.Ab
@[reducible] def _root_.Prod.c4 {a b c d e : Type} (x : a × b × c × d × e) : e := x.2.2.2.2
@[reducible] def _root_.Prod.c8 {a b c d e f g h i : Type} (x : a × b × c × d × e × f × g × h × i) : i := x.2.2.2.2.2.2.2.2
@[reducible] def _root_.Prod.c16 {a b c d e f g h i j k l m n o p q : Type} (x : a × b × c × d × e × f × g × h × i × j × k × l × m × n × o × p × q) : q := x.2.2.2.2.2.2.2.2.2.2.2.2.2.2.2.2
abbrev NI := Nat → Int
abbrev kI (g : Nat → Int) : Col := .i .i64 g
abbrev fI (n : Int) : CV := .f (.i .i64 n)
end Go.Ab
