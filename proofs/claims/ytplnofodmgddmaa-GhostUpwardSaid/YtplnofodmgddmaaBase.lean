/- The plain data that the statements speak of: versions, entries, pairs of entries and so on, as structures of Lean. -/
namespace Go.Proofs.Ytplnofodmgddmaa
structure Ver where
  f0 : Int
  f1 : Int
  deriving DecidableEq
structure Ent where
  f0 : ByteArray
  f1 : Ver
  f2 : ByteArray
  f3 : Bool
  deriving DecidableEq
structure PairE where
  f0 : Ent
  f1 : Ent
structure GOp where
  f0 : Int
  f1 : Int
  f2 : Ent
  f3 : List Ent
  f4 : Bool
end Go.Proofs.Ytplnofodmgddmaa
