/- Part 1 of the proof: contracts of the functions that the law reaches, and the plain law. No condition. -/
import Derived.Test.YtmpcfamcbaineaaGreatRows
import Derived.ArgAppend
import Derived.Below
import Derived.BigQuiet
import Derived.BigRegion
import Derived.ChangeOld
import Derived.ChangeSlices
import Derived.Deep.AppendLies
import Derived.Deep.CutBlock
import Derived.Deep.DeepCutAuto
import Derived.Deep.Draws
import Derived.Deep.LoopGhost
import Derived.Deep.OwnRows
import Derived.Deep.QuietTactic
import Derived.Deep.RegionHeld3
import Derived.Deep.RegionLaw
import Derived.KernelRfl
import Derived.Laws.AppendOwn
import Derived.Laws.BitsLemmas
import Derived.Laws.BytesArg
import Derived.Laws.IdiomCopy
import Derived.Laws.MakeOwn
import Derived.Laws.OwnMore
import Derived.Laws.Rows
import Derived.Laws.Slices
import Derived.Lib.AppendStr
import Derived.Lib.ConvBytes
import Derived.MapKept
import Derived.Maps.AppendAt
import Derived.OpenShut
import Derived.OrdersHeld
import Derived.Outline
import Derived.OwnWalk
import Derived.ProofKit
import Derived.RowKit
import Derived.RowKit3
import Derived.ScopeJumps
import Derived.ShutString
import Derived.SizedLaws
import Derived.Tactics
import Derived.WalkKit
import Derived.WideLaws
namespace Go.Proofs.YtmpcfamcbaineaaGreat.Mo
theorem tri2 {A B : Type _} {a b : A} {c d : B} (h : (a, c) = (b, d)) : a = b ∧ c = d := by
  cases h
  exact ⟨rfl, rfl⟩
open Go.RowKit Go.Proofs.YtmpcfamcbaineaaGreat.Mo
set_option linter.unusedVariables false
set_option linter.unusedSimpArgs false
theorem own_move {w w1 : World} {base : Nat} {e : TypeId} {size n : Nat} {v : Value} {xs : List Value} (h : w.ownsRow base e size v n xs) (hm : ∀ k, v.ownBlock = some k → w1.heap[k]? = w.heap[k]?) : w1.ownsRow base e size v n xs := by
  obtain ⟨h1, h2⟩ := h
  refine ⟨h1, ?_⟩
  rcases h2 with h2 | ⟨g, cap, cur, rfl, hg, hh, r⟩
  · exact .inl h2
  · exact .inr ⟨g, cap, cur, rfl, hg, (hm g (by simp [Value.ownBlock])).trans hh, r⟩
theorem Z {α : Sort _} {a : α} : a = a := rfl
abbrev nf : Nat → Bool := fun _ => false
abbrev ct (l : List Nat) : Nat → Bool := fun i => l.contains i
structure Aside0 (p : Prop) : Prop where mk :: (out : p)
theorem below_alloc {w W : World} (h : Below w.heap.size w W) (o : Obj) : Below w.heap.size w (W.alloc o) := h.alloc h.size o
def w64 (x : Int) : Int := x % 18446744073709551616
def w32 (x : Int) : Int := x % 4294967296
def hi (w : Int) : Int := w / 4294967296
def lo (w : Int) : Int := w % 4294967296
def pair (h l : Int) : Int := h * 4294967296 + l
def turn (w l : Int) : Int := pair (w32 (hi w + 1)) l
def dist (a b : Int) : Int := if w64 (a - b) < 9223372036854775808 then w64 (a - b) else w64 (a - b) - 18446744073709551616
def phaseW (cycle phase : Int) : Int := w64 (cycle * 8) + phase
abbrev Wds := List Int
def inM (l : Wds) (a : Int) : Prop := 0 ≤ a ∧ a < l.length
instance (l : Wds) (a : Int) : Decidable (inM l a) := inferInstanceAs (Decidable (_ ∧ _))
def ld (l : Wds) (a : Int) : Int := if inM l a then l.getD a.toNat 0 else 0
def put (l : Wds) (a v : Int) : Wds := if inM l a then l.set a.toNat v else l
def casB (l : Wds) (a old : Int) : Bool := decide (inM l a ∧ ld l a = old)
def cas (l : Wds) (a old v : Int) : Wds := if casB l a old = true then put l a v else l
def fad (l : Wds) (a n : Int) : Wds := put l a (w64 (ld l a + n))
structure MapM where
  ack : Int
  head : Int
  deques : Int
  packets : Int
  node0 : Int
  nodes : Int
  many : Int
  parts : Int
  all : Int
  k0 : Int
  k1 : Int
  k2 : Int
  k3 : Int
  k4 : Int
  markers : Int
  mutators : Int
  deque : Int
  chunk : Int
  buffer : Int
  roots : Int
  sweep : Int
  at_ : List Int
  room : List Int
structure MapM.Ok (M : MapM) : Prop where
  ack : 0 ≤ M.ack ∧ M.ack ≤ 100000
  head : 0 ≤ M.head ∧ M.head ≤ 100000
  deques : 0 ≤ M.deques ∧ M.deques ≤ 100000
  packets : 0 ≤ M.packets ∧ M.packets ≤ 100000
  many : 0 ≤ M.many ∧ M.many ≤ 100000
  parts : 0 ≤ M.parts ∧ M.parts ≤ 100000
  kk : (0 ≤ M.k0 ∧ M.k0 ≤ 12) ∧ (0 ≤ M.k1 ∧ M.k1 ≤ 12) ∧ (0 ≤ M.k2 ∧ M.k2 ≤ 12) ∧ (0 ≤ M.k3 ∧ M.k3 ≤ 12) ∧ (0 ≤ M.k4 ∧ M.k4 ≤ 12)
  markers : 1 ≤ M.markers ∧ M.markers ≤ 4
  mutators : 1 ≤ M.mutators ∧ M.mutators ≤ 4
  deque : 2 ≤ M.deque ∧ M.deque ≤ 8
  chunk : 1 ≤ M.chunk ∧ M.chunk ≤ 16
  buffer : 1 ≤ M.buffer ∧ M.buffer ≤ 4
  roots : 1 ≤ M.roots ∧ M.roots ≤ 8
  sweep : 1 ≤ M.sweep ∧ M.sweep ≤ 16
  nodes : 1 ≤ M.nodes ∧ M.nodes ≤ 60
  at_ : M.at_.length = M.nodes.toNat
  room : M.room.length = M.nodes.toNat
  ats : ∀ i, 0 ≤ M.at_.getD i 0 ∧ M.at_.getD i 0 ≤ 100000
  rooms : ∀ i, i < M.nodes.toNat → 1 ≤ M.room.getD i 0 ∧ M.room.getD i 0 ≤ 16
namespace MapM
variable (M : MapM)
def Ack (i : Int) : Int := if i < 0 ∨ i ≥ M.mutators then -1 else M.ack + i
def Head (k : Int) : Int := if k < 0 ∨ k ≥ 5 then -1 else M.head + k
def end_ (i j : Int) : Int := if i < 0 ∨ i ≥ M.markers then -1 else M.deques + i * (2 + M.deque) + j
def packet (p j : Int) : Int := if p < 1 ∨ p > M.many then -1 else M.packets + (p - 1) * 6 + j
def Top (i : Int) : Int := M.end_ i 0
def Bottom (i : Int) : Int := M.end_ i 1
def Entry (i j : Int) : Int := if j < 0 ∨ j ≥ M.deque then -1 else M.end_ i (2 + j)
def Many (p : Int) : Int := M.packet p 0
def Link (p : Int) : Int := M.packet p 1
def Task (p j : Int) : Int := if j < 0 ∨ j ≥ 4 then -1 else M.packet p (2 + j)
def Room (v : Int) : Int := if v < 1 ∨ v > M.nodes then 0 else M.room.getD (v - 1).toNat 0
def node (v j : Int) : Int := if M.Room v = 0 then -1 else M.at_.getD (v - 1).toNat 0 + j
def Header (v : Int) : Int := M.node v 0
def State (v : Int) : Int := M.node v 1
def Mark (v : Int) : Int := M.node v 2
def Next (v : Int) : Int := M.node v 3
def Slot (v i : Int) : Int := if i < 0 ∨ i ≥ M.Room v then -1 else M.node v (4 + i)
def Class (v : Int) : Int :=
  if v < 1 then -1 else if v ≤ M.k0 then 0 else if v - M.k0 ≤ M.k1 then 1 else if v - M.k0 - M.k1 ≤ M.k2 then 2
  else if v - M.k0 - M.k1 - M.k2 ≤ M.k3 then 3 else if v - M.k0 - M.k1 - M.k2 - M.k3 ≤ M.k4 then 4 else -1
def PartA (j : Int) : Int := if j < 0 ∨ j ≥ M.parts then 0 else j * M.sweep + 1
def PartB (j : Int) : Int := if j < 0 ∨ j ≥ M.parts then -1 else min ((j + 1) * M.sweep) M.nodes
end MapM
structure Ev where
  kind : Int
  who : Int
  a : Int
  b : Int
  c : Int
  deriving DecidableEq
def ev0 : Ev := ⟨0, 0, 0, 0, 0⟩
structure DqE where
  top : Int
  bottom : Int
  entry : Int
  room : Int
inductive DqN where
  | nil | pushFirst | popFirst | stealFirst | pushTop | pushEntry | pushEnd | popDown | popTop | popEntry | popSwap | popBack | stealBottom | stealEntry | stealSwap
  deriving DecidableEq
structure Dq where
  e : DqE
  next : DqN
  b : Int
  t : Int
  w : Int
  out : Int
  won : Bool
def DqE.at_ (e : DqE) (a : Int) : Int := e.entry + a % max e.room 1
def Dq.push (e : DqE) (w : Int) : Dq := ⟨e, .pushFirst, 0, 0, w, 0, false⟩
def Dq.pop (e : DqE) : Dq := ⟨e, .popFirst, 0, 0, 0, 0, false⟩
def Dq.steal (e : DqE) : Dq := ⟨e, .stealFirst, 0, 0, 0, 0, false⟩
def Dq.step (m : Dq) (l : Wds) : Dq × Wds :=
  match m.next with
  | .nil => (m, l)
  | .pushFirst => ({ m with b := ld l m.e.bottom, next := .pushTop }, l)
  | .pushTop =>
    if dist m.b (ld l m.e.top) ≥ max m.e.room 1 then ({ m with t := ld l m.e.top, w := 0, out := 2, next := .nil }, l)
    else ({ m with t := ld l m.e.top, next := .pushEntry }, l)
  | .pushEntry => ({ m with next := .pushEnd }, put l (m.e.at_ m.b) m.w)
  | .pushEnd => ({ m with w := 0, out := 1, next := .nil }, put l m.e.bottom (w64 (m.b + 1)))
  | .popFirst => ({ m with b := w64 (ld l m.e.bottom - 1), next := .popDown }, l)
  | .popDown => ({ m with next := .popTop }, put l m.e.bottom m.b)
  | .popTop =>
    if dist (ld l m.e.top) m.b > 0 then ({ m with t := ld l m.e.top, next := .popBack }, l)
    else ({ m with t := ld l m.e.top, next := .popEntry }, l)
  | .popEntry =>
    if dist m.b m.t > 0 then ({ m with w := ld l (m.e.at_ m.b), out := 1, next := .nil }, l)
    else ({ m with w := ld l (m.e.at_ m.b), next := .popSwap }, l)
  | .popSwap => ({ m with won := casB l m.e.top m.t, next := .popBack }, cas l m.e.top m.t (w64 (m.t + 1)))
  | .popBack =>
    if m.won = true then ({ m with out := 1, next := .nil }, put l m.e.bottom (w64 (m.b + 1)))
    else ({ m with w := 0, out := 3, next := .nil }, put l m.e.bottom (w64 (m.b + 1)))
  | .stealFirst => ({ m with t := ld l m.e.top, next := .stealBottom }, l)
  | .stealBottom =>
    if dist (ld l m.e.bottom) m.t ≤ 0 then ({ m with b := ld l m.e.bottom, out := 3, next := .nil }, l)
    else ({ m with b := ld l m.e.bottom, next := .stealEntry }, l)
  | .stealEntry => ({ m with w := ld l (m.e.at_ m.t), next := .stealSwap }, l)
  | .stealSwap =>
    if casB l m.e.top m.t = true then ({ m with out := 1, next := .nil }, cas l m.e.top m.t (w64 (m.t + 1)))
    else ({ m with w := 0, out := 4, next := .nil }, cas l m.e.top m.t (w64 (m.t + 1)))
inductive StN where
  | nil | pushHead | pushLink | pushSwap | popHead | popLink | popSwap
  deriving DecidableEq
structure St where
  head : Int
  node : Bool
  item : Int
  h : Int
  next : StN
  link : Int
def MapM.link (M : MapM) (node : Bool) (i : Int) : Int := if node = true then M.Next i else M.Link i
def St.push (head : Int) (node : Bool) (item : Int) : St := ⟨head, node, item, 0, .pushHead, 0⟩
def St.pop (head : Int) (node : Bool) : St := ⟨head, node, 0, 0, .popHead, 0⟩
def St.step (M : MapM) (m : St) (l : Wds) : St × Wds :=
  match m.next with
  | .nil => (m, l)
  | .pushHead => ({ m with h := ld l m.head, link := lo (ld l m.head), next := .pushLink }, l)
  | .pushLink => ({ m with next := .pushSwap }, put l (M.link m.node m.item) m.link)
  | .pushSwap =>
    if casB l m.head m.h = true then ({ m with next := .nil }, cas l m.head m.h (turn m.h m.item))
    else ({ m with next := .pushHead }, cas l m.head m.h (turn m.h m.item))
  | .popHead =>
    if lo (ld l m.head) = 0 then ({ m with h := ld l m.head, item := lo (ld l m.head), next := .nil }, l)
    else ({ m with h := ld l m.head, item := lo (ld l m.head), next := .popLink }, l)
  | .popLink => ({ m with link := w32 (ld l (M.link m.node m.item)), next := .popSwap }, l)
  | .popSwap =>
    if casB l m.head m.h = true then ({ m with next := .nil }, cas l m.head m.h (turn m.h m.link))
    else ({ m with next := .popHead }, cas l m.head m.h (turn m.h m.link))
inductive PkN where
  | nil | spare | fill | many | last
  deriving DecidableEq
structure Pk where
  tasks : List Int
  j : Nat
  p : Int
  inner : St
  next : PkN
def st0 : St := ⟨0, false, 0, 0, .nil, 0⟩
def Pk.put (tasks : List Int) : Pk := if tasks = [] then ⟨[], 0, 0, st0, .nil⟩ else ⟨tasks, 0, 0, .pop 5 false, .spare⟩
def Pk.take : Pk := ⟨[], 0, 0, .pop 4 false, .last⟩
def Pk.back (M : MapM) (p : Int) : Pk := if M.Link p ≥ 0 then ⟨[], 0, 0, .push 5 false p, .last⟩ else ⟨[], 0, 0, st0, .nil⟩
def Pk.step (M : MapM) (x : Pk) (l : Wds) : Pk × Wds :=
  match x.next with
  | .nil => (x, l)
  | .spare =>
    if (x.inner.step M l).1.next = .nil then
      if (x.inner.step M l).1.item = 0 then ({ x with p := 0, inner := .pop 5 false, next := .spare }, (x.inner.step M l).2)
      else ({ x with p := (x.inner.step M l).1.item, inner := (x.inner.step M l).1, next := .fill }, (x.inner.step M l).2)
    else ({ x with inner := (x.inner.step M l).1 }, (x.inner.step M l).2)
  | .fill =>
    if x.j + 1 = x.tasks.length then ({ x with j := x.j + 1, next := .many }, Mo.put l (M.Task x.p x.j) (x.tasks.getD x.j 0))
    else ({ x with j := x.j + 1 }, Mo.put l (M.Task x.p x.j) (x.tasks.getD x.j 0))
  | .many => ({ x with inner := .push 4 false x.p, next := .last }, Mo.put l (M.Many x.p) x.tasks.length)
  | .last =>
    if (x.inner.step M l).1.next = .nil then ({ x with p := (x.inner.step M l).1.item, inner := (x.inner.step M l).1, next := .nil }, (x.inner.step M l).2)
    else ({ x with inner := (x.inner.step M l).1 }, (x.inner.step M l).2)
inductive ClN where
  | nil | look | count | swap | back
  deriving DecidableEq
structure Cl where
  v : Int
  cycle : Int
  k : Int
  won : Bool
  next : ClN
def Cl.new (v cycle : Int) : Cl := ⟨v, cycle, 0, false, .look⟩
def less : Int := 18446744073709551615
def Cl.step (M : MapM) (x : Cl) (l : Wds) : Cl × Wds :=
  match x.next with
  | .nil => (x, l)
  | .look =>
    if ld l (M.Mark x.v) ≥ x.cycle then ({ x with k := ld l (M.Mark x.v), next := .nil }, l)
    else ({ x with k := ld l (M.Mark x.v), next := .count }, l)
  | .count => ({ x with next := .swap }, fad l 1 1)
  | .swap =>
    if casB l (M.Mark x.v) x.k = true then ({ x with won := true, next := .nil }, cas l (M.Mark x.v) x.k x.cycle)
    else ({ x with won := false, next := .back }, cas l (M.Mark x.v) x.k x.cycle)
  | .back => ({ x with next := .nil }, fad l 1 less)
def MapM.ends (M : MapM) (i : Int) : DqE := ⟨M.Top i, M.Bottom i, M.Entry i 0, M.deque⟩
inductive AdN where
  | nil | own | pool
  deriving DecidableEq
structure Ad where
  task : Int
  push : Dq
  put : Pk
  next : AdN
def Ad.new (M : MapM) (i task : Int) : Ad := ⟨task, .push (M.ends i) task, .take, .own⟩
def Ad.step (M : MapM) (x : Ad) (l : Wds) : Ad × Wds :=
  match x.next with
  | .nil => (x, l)
  | .own =>
    if (x.push.step l).1.next = .nil then
      if (x.push.step l).1.out = 2 then ({ x with push := (x.push.step l).1, put := .put [x.task], next := .pool }, (x.push.step l).2)
      else ({ x with push := (x.push.step l).1, next := .nil }, (x.push.step l).2)
    else ({ x with push := (x.push.step l).1 }, (x.push.step l).2)
  | .pool =>
    if (x.put.step M l).1.next = .nil then ({ x with put := (x.put.step M l).1, next := .nil }, (x.put.step M l).2)
    else ({ x with put := (x.put.step M l).1 }, (x.put.step M l).2)
def bound (low n high : Int) : Int := min (max low n) high
def pieceA (slots from_ : Int) : Int := bound 0 from_ (bound 0 slots 1000)
def pieceB (slots from_ chunk : Int) : Int := bound 0 (pieceA slots from_ + bound 1 chunk 1000) (bound 0 slots 1000)
inductive ScN where
  | nil | head | count | adds | slot | claims | last
  deriving DecidableEq
structure Sc where
  i : Int
  v : Int
  from_ : Int
  cycle : Int
  pa : Int
  pb : Int
  at_ : Int
  w : Int
  claim : Cl
  add : Ad
  event : Ev
  next : ScN
def Sc.new (i task cycle : Int) : Sc := ⟨i, hi task, lo task, cycle, 0, 0, 0, 0, .new 0 0, ⟨0, .pop ⟨0, 0, 0, 0⟩, .take, .nil⟩, ev0, .head⟩
def Sc.slots (x : Sc) : ScN := if x.at_ < x.pb then .slot else .last
def Sc.give (M : MapM) (x : Sc) (v from_ : Int) : Sc := { x with add := .new M x.i (pair v from_), next := .adds }
def Sc.step0 (M : MapM) (x : Sc) (l : Wds) : Sc × Wds :=
  match x.next with
  | .nil => (x, l)
  | .head =>
    if pieceB (min (ld l (M.Header x.v)) (M.Room x.v)) x.from_ M.chunk < bound 0 (min (ld l (M.Header x.v)) (M.Room x.v)) 1000 then
      ({ x with pa := pieceA (min (ld l (M.Header x.v)) (M.Room x.v)) x.from_, pb := pieceB (min (ld l (M.Header x.v)) (M.Room x.v)) x.from_ M.chunk, at_ := pieceA (min (ld l (M.Header x.v)) (M.Room x.v)) x.from_, next := .count }, l)
    else
      ({ x with pa := pieceA (min (ld l (M.Header x.v)) (M.Room x.v)) x.from_, pb := pieceB (min (ld l (M.Header x.v)) (M.Room x.v)) x.from_ M.chunk, at_ := pieceA (min (ld l (M.Header x.v)) (M.Room x.v)) x.from_,
                next := if pieceA (min (ld l (M.Header x.v)) (M.Room x.v)) x.from_ < pieceB (min (ld l (M.Header x.v)) (M.Room x.v)) x.from_ M.chunk then .slot else .last }, l)
  | .count => (({ x with event := ⟨2, 0, x.v, x.pb, 0⟩ } : Sc).give M x.v x.pb, fad l 1 1)
  | .adds =>
    if (x.add.step M l).1.next = .nil then ({ x with add := (x.add.step M l).1, next := x.slots }, (x.add.step M l).2)
    else ({ x with add := (x.add.step M l).1 }, (x.add.step M l).2)
  | .slot =>
    if 1 ≤ ld l (M.Slot x.v x.at_) ∧ ld l (M.Slot x.v x.at_) ≤ M.nodes then
      ({ x with event := ⟨3, 0, x.v, x.at_, 0⟩, at_ := x.at_ + 1, w := ld l (M.Slot x.v x.at_), claim := .new (ld l (M.Slot x.v x.at_)) x.cycle, next := .claims }, l)
    else ({ x with event := ⟨3, 0, x.v, x.at_, 0⟩, at_ := x.at_ + 1, next := if x.at_ + 1 < x.pb then .slot else .last }, l)
  | .claims =>
    if (x.claim.step M l).1.next = .nil then
      if (x.claim.step M l).1.won = true then (({ x with claim := (x.claim.step M l).1, event := ⟨1, 0, x.w, 0, 0⟩ } : Sc).give M x.w 0, (x.claim.step M l).2)
      else ({ x with claim := (x.claim.step M l).1, next := x.slots }, (x.claim.step M l).2)
    else ({ x with claim := (x.claim.step M l).1 }, (x.claim.step M l).2)
  | .last => ({ x with event := ⟨4, 0, x.v, x.from_, 0⟩, next := .nil }, fad l 1 less)
def Sc.step (M : MapM) (x : Sc) (l : Wds) : Sc × Wds := ({ x with event := ev0 } : Sc).step0 M l
structure Bag where
  packet : Int
  at_ : Int
  many : Int
  deriving DecidableEq
def bag0 : Bag := ⟨0, 0, 0⟩
def victim (all i draw : Int) : Int :=
  if all < 2 then -1 else if draw % all = i then (draw % all + 1) % all else draw % all
inductive SkN where
  | nil | own | first | back | take | many | steal
  deriving DecidableEq
structure Sk where
  i : Int
  bag : Bag
  draw : Int
  ends : Dq
  pack : Pk
  task : Int
  found : Bool
  next : SkN
def Sk.new (M : MapM) (i : Int) (b : Bag) (draw : Int) : Sk := ⟨i, ⟨b.packet, min (max b.at_ 0) 4, min (max b.many 0) 4⟩, draw, .pop (M.ends i), .take, 0, false, .own⟩
def Sk.done (x : Sk) (task : Int) : Sk := { x with task := task, found := true, next := .nil }
def Sk.unpack (M : MapM) (x : Sk) : Sk :=
  if x.bag.packet ≠ 0 ∧ x.bag.at_ < x.bag.many then { x with next := .first }
  else if M.Link x.bag.packet < 0 then { x with bag := bag0, pack := .take, next := .take }
  else { x with bag := bag0, pack := .back M x.bag.packet, next := .back }
def Sk.step (M : MapM) (x : Sk) (l : Wds) : Sk × Wds :=
  match x.next with
  | .nil => (x, l)
  | .own =>
    if (x.ends.step l).1.next = .nil then
      if (x.ends.step l).1.out = 1 then (({ x with ends := (x.ends.step l).1 } : Sk).done (x.ends.step l).1.w, (x.ends.step l).2)
      else (({ x with ends := (x.ends.step l).1 } : Sk).unpack M, (x.ends.step l).2)
    else ({ x with ends := (x.ends.step l).1 }, (x.ends.step l).2)
  | .first => (({ x with bag := ⟨x.bag.packet, x.bag.at_ + 1, x.bag.many⟩ } : Sk).done (ld l (M.Task x.bag.packet x.bag.at_)), l)
  | .back =>
    if (x.pack.step M l).1.next = .nil then ({ x with pack := .take, next := .take }, (x.pack.step M l).2)
    else ({ x with pack := (x.pack.step M l).1 }, (x.pack.step M l).2)
  | .take =>
    if (x.pack.step M l).1.next = .nil then
      if (x.pack.step M l).1.p ≠ 0 then ({ x with pack := (x.pack.step M l).1, next := .many }, (x.pack.step M l).2)
      else if victim M.markers x.i x.draw ≥ 0 then ({ x with pack := (x.pack.step M l).1, ends := .steal (M.ends (victim M.markers x.i x.draw)), next := .steal }, (x.pack.step M l).2)
      else ({ x with pack := (x.pack.step M l).1, next := .nil }, (x.pack.step M l).2)
    else ({ x with pack := (x.pack.step M l).1 }, (x.pack.step M l).2)
  | .many => (({ x with bag := ⟨x.pack.p, 0, min (ld l (M.Many x.pack.p)) 4⟩ } : Sk).unpack M, l)
  | .steal =>
    if (x.ends.step l).1.next = .nil then
      if (x.ends.step l).1.out = 1 then (({ x with ends := (x.ends.step l).1 } : Sk).done (x.ends.step l).1.w, (x.ends.step l).2)
      else ({ x with ends := (x.ends.step l).1, next := .nil }, (x.ends.step l).2)
    else ({ x with ends := (x.ends.step l).1 }, (x.ends.step l).2)
inductive SwN where
  | nil | look | take | state | mark | free | list | done
  deriving DecidableEq
structure Sw where
  cycle : Int
  w : Int
  part : Int
  v : Int
  last : Int
  push : St
  event : Ev
  next : SwN
def Sw.new (cycle : Int) : Sw := ⟨cycle, 0, -1, 0, 0, st0, ev0, .look⟩
def Sw.on (x : Sw) : Sw := { x with v := x.v + 1, next := if x.v + 1 ≤ x.last then .state else .done }
def Sw.step0 (M : MapM) (x : Sw) (l : Wds) : Sw × Wds :=
  match x.next with
  | .nil => (x, l)
  | .look =>
    if hi (ld l 2) = w32 x.cycle ∧ lo (ld l 2) < M.parts then ({ x with w := ld l 2, next := .take }, l)
    else ({ x with w := ld l 2, next := .nil }, l)
  | .take =>
    if casB l 2 x.w = true then
      ({ x with part := lo x.w, v := M.PartA (lo x.w), last := M.PartB (lo x.w), next := if M.PartA (lo x.w) ≤ M.PartB (lo x.w) then .state else .done }, cas l 2 x.w (pair (hi x.w) (w32 (lo x.w + 1))))
    else ({ x with next := .nil }, cas l 2 x.w (pair (hi x.w) (w32 (lo x.w + 1))))
  | .state => if ld l (M.State x.v) = 1 then ({ x with next := .mark }, l) else (x.on, l)
  | .mark => if ld l (M.Mark x.v) < x.cycle then ({ x with next := .free }, l) else (x.on, l)
  | .free => ({ x with event := ⟨5, 0, x.v, 0, 0⟩, push := .push (M.Head (M.Class x.v)) true x.v, next := .list }, put l (M.State x.v) 0)
  | .list =>
    if (x.push.step M l).1.next = .nil then (({ x with push := (x.push.step M l).1 } : Sw).on, (x.push.step M l).2)
    else ({ x with push := (x.push.step M l).1 }, (x.push.step M l).2)
  | .done => ({ x with event := ⟨6, 0, x.part, 0, 0⟩, next := .nil }, fad l 3 1)
def Sw.step (M : MapM) (x : Sw) (l : Wds) : Sw × Wds := ({ x with event := ev0 } : Sw).step0 M l
inductive MkN where
  | look | seeks | wait | scans | sweeps
  deriving DecidableEq
structure Mk where
  i : Int
  seek : Sk
  scan : Sc
  sweep : Sw
  bag : Bag
  task : Int
  has : Bool
  event : Ev
  next : MkN
def Mk.new (M : MapM) (i : Int) : Mk := ⟨i, .new M 0 bag0 0, .new 0 0 0, .new 0, bag0, 0, false, ev0, .look⟩
def Mk.step (M : MapM) (x : Mk) (l : Wds) (draw : Int) : Mk × Wds :=
  match x.next with
  | .look =>
    if ld l 0 % 8 = 3 ∨ ld l 0 % 8 = 4 then ({ x with event := ev0, seek := .new M x.i x.bag draw, next := .seeks }, l)
    else if ld l 0 % 8 = 5 then ({ x with event := ev0, sweep := .new (ld l 0 / 8), next := .sweeps }, l)
    else ({ x with event := ev0 }, l)
  | .seeks =>
    if (x.seek.step M l).1.next = .nil then
      ({ x with event := ev0, seek := (x.seek.step M l).1, bag := (x.seek.step M l).1.bag, task := if (x.seek.step M l).1.found = true then (x.seek.step M l).1.task else 0, has := (x.seek.step M l).1.found,
                next := if (x.seek.step M l).1.found = true then .wait else .look }, (x.seek.step M l).2)
    else ({ x with event := ev0, seek := (x.seek.step M l).1 }, (x.seek.step M l).2)
  | .wait =>
    if ld l 0 % 8 = 3 ∨ ld l 0 % 8 = 4 then ({ x with event := ev0, scan := .new x.i x.task (ld l 0 / 8), next := .scans }, l)
    else ({ x with event := ev0 }, l)
  | .scans =>
    if (x.scan.step M l).1.next = .nil then ({ x with scan := (x.scan.step M l).1, event := (x.scan.step M l).1.event, task := 0, has := false, next := .look }, (x.scan.step M l).2)
    else ({ x with scan := (x.scan.step M l).1, event := (x.scan.step M l).1.event }, (x.scan.step M l).2)
  | .sweeps =>
    if (x.sweep.step M l).1.next = .nil then ({ x with sweep := (x.sweep.step M l).1, event := (x.sweep.step M l).1.event, task := 0, has := false, next := .look }, (x.sweep.step M l).2)
    else ({ x with sweep := (x.sweep.step M l).1, event := (x.sweep.step M l).1.event }, (x.sweep.step M l).2)
inductive BuN where
  | nil | claims | puts
  deriving DecidableEq
structure Bu where
  v : Int
  claim : Cl
  put : Pk
  event : Ev
  next : BuN
def Bu.log (v cycle : Int) : Bu := ⟨v, .new v cycle, .take, ev0, .claims⟩
def Bu.flush (tasks : List Int) : Bu := ⟨0, .new 0 0, .put tasks, ev0, if tasks = [] then .nil else .puts⟩
def Bu.step0 (M : MapM) (x : Bu) (tasks : List Int) (l : Wds) : Bu × List Int × Wds :=
  match x.next with
  | .nil => (x, tasks, l)
  | .claims =>
    if (x.claim.step M l).1.next = .nil then
      if (x.claim.step M l).1.won = true then
        if (tasks ++ [pair x.v 0]).length ≥ M.buffer then
          ({ x with claim := (x.claim.step M l).1, event := ⟨1, 0, x.v, 0, 0⟩, put := .put (tasks ++ [pair x.v 0]), next := .puts }, tasks ++ [pair x.v 0], (x.claim.step M l).2)
        else ({ x with claim := (x.claim.step M l).1, event := ⟨1, 0, x.v, 0, 0⟩, next := .nil }, tasks ++ [pair x.v 0], (x.claim.step M l).2)
      else ({ x with claim := (x.claim.step M l).1, next := .nil }, tasks, (x.claim.step M l).2)
    else ({ x with claim := (x.claim.step M l).1 }, tasks, (x.claim.step M l).2)
  | .puts =>
    if (x.put.step M l).1.next = .nil then ({ x with put := (x.put.step M l).1, next := .nil }, [], (x.put.step M l).2)
    else ({ x with put := (x.put.step M l).1 }, tasks, (x.put.step M l).2)
def Bu.step (M : MapM) (x : Bu) (tasks : List Int) (l : Wds) : Bu × List Int × Wds := ({ x with event := ev0 } : Bu).step0 M tasks l
def slotsOf (k : Int) : Int := if k < 0 ∨ k ≥ 5 then 0 else if k = 0 then 1 else if k = 1 then 2 else if k = 2 then 4 else if k = 3 then 8 else 16
def classOf (n : Int) : Int := if n < 0 then -1 else if n ≤ 1 then 0 else if n ≤ 2 then 1 else if n ≤ 4 then 2 else if n ≤ 8 then 3 else if n ≤ 16 then 4 else -1
inductive HpN where
  | nil | look | links | swap | header | slot | marks | state
  deriving DecidableEq
structure Hp where
  slots : Int
  mark : Int
  h : Int
  link : Int
  v : Int
  tries : Int
  i : Int
  node : Int
  e : Int
  event : Ev
  next : HpN
def Hp.new (slots mark : Int) : Hp := ⟨slots, mark, 0, 0, 0, 0, 0, 0, if classOf slots ≥ 0 then 0 else 21, ev0, if classOf slots ≥ 0 then .look else .nil⟩
def Hp.rest (M : MapM) (i v : Int) : HpN := if i < M.Room v then .slot else .marks
def Hp.step0 (M : MapM) (x : Hp) (l : Wds) : Hp × Wds :=
  match x.next with
  | .nil => (x, l)
  | .look =>
    if lo (ld l (M.Head (classOf x.slots))) = 0 then ({ x with tries := x.tries + 1, h := ld l (M.Head (classOf x.slots)), v := lo (ld l (M.Head (classOf x.slots))), e := 22, next := .nil }, l)
    else ({ x with tries := x.tries + 1, h := ld l (M.Head (classOf x.slots)), v := lo (ld l (M.Head (classOf x.slots))), next := .links }, l)
  | .links => ({ x with link := w32 (ld l (M.Next x.v)), next := .swap }, l)
  | .swap =>
    if casB l (M.Head (classOf x.slots)) x.h = true then ({ x with next := .header }, cas l (M.Head (classOf x.slots)) x.h (turn x.h x.link))
    else if x.tries = 4 then ({ x with e := 23, next := .nil }, cas l (M.Head (classOf x.slots)) x.h (turn x.h x.link))
    else ({ x with next := .look }, cas l (M.Head (classOf x.slots)) x.h (turn x.h x.link))
  | .header => ({ x with next := Hp.rest M x.i x.v }, put l (M.Header x.v) x.slots)
  | .slot => ({ x with i := x.i + 1, next := Hp.rest M (x.i + 1) x.v }, put l (M.Slot x.v x.i) 0)
  | .marks => ({ x with next := .state }, put l (M.Mark x.v) x.mark)
  | .state => ({ x with node := x.v, event := ⟨8, 0, x.v, x.slots, 0⟩, next := .nil }, put l (M.State x.v) 1)
def Hp.step (M : MapM) (x : Hp) (l : Wds) : Hp × Wds := ({ x with event := ev0 } : Hp).step0 M l
structure MOp where
  kind : Int
  a : Int
  b : Int
  c : Int
  deriving DecidableEq
inductive Thn where
  | begin_ | look | ackRoots | logNew | setWrite
  deriving DecidableEq
inductive MuN where
  | safe | made | head | pop | dup | read | old | write | fail (e : Int) | does (t : Thn) | ack (w : Int)
  deriving DecidableEq
structure Mu where
  i : Int
  ops : List MOp
  op : MOp
  roots : List Int
  tasks : List Int
  armed : Int
  still : Int
  tint : Int
  cycle : Int
  k : Nat
  alloc : Hp
  log : Bu
  event : Ev
  next : MuN
def Mu.root (x : Mu) (a : Int) : Int := if a < 0 ∨ a ≥ x.roots.length then -1 else x.roots.getD a.toNat 0
def Mu.may (M : MapM) (x : Mu) : Int :=
  if x.op.kind = 0 then (if (x.roots.length : Int) ≥ M.roots then 13 else 0)
  else if x.op.kind = 1 then (if x.root x.op.a < 1 then 1 else if (x.roots.length : Int) ≥ M.roots then 13 else 0)
  else if x.op.kind = 2 then (if x.root x.op.a < 1 ∨ x.root x.op.c < 0 then 1 else 0)
  else if x.op.kind = 3 then (if x.roots.length = 0 then 1 else 0)
  else if x.op.kind = 4 then (if x.root x.op.a < 0 then 1 else if (x.roots.length : Int) ≥ M.roots then 13 else 0)
  else 1
def Mu.first (x : Mu) : MuN :=
  if x.op.kind = 0 then .made else if x.op.kind = 1 then .head else if x.op.kind = 2 then .head else if x.op.kind = 3 then .pop else .dup
def Mu.begin_ (M : MapM) (x : Mu) : Mu :=
  match x.ops with
  | [] => { x with next := .safe }
  | o :: r =>
    if Mu.may M { x with op := o, ops := r } ≠ 0 then { x with op := o, ops := r, next := .fail (Mu.may M { x with op := o, ops := r }) }
    else if o.kind = 0 then { x with op := o, ops := r, alloc := .new o.a x.tint, next := .made }
    else { x with op := o, ops := r, next := Mu.first { x with op := o, ops := r } }
def op0 : MOp := ⟨0, 0, 0, 0⟩
def Mu.new (M : MapM) (i : Int) (ops : List MOp) : Mu :=
  Mu.begin_ M ⟨i, ops.take 64, op0, [M.nodes], [], 0, 0, 0, 0, 0, .new 0 0, .log 0 0, ev0, .safe⟩
def Mu.end_ (x : Mu) (e : Ev) : Mu := { x with event := e, next := .safe }
def Mu.fail (x : Mu) (e : Int) : Mu := x.end_ ⟨13, 0, x.op.kind, e, 0⟩
def Mu.flushRoots (x : Mu) : Mu :=
  if x.tasks = [] then { x with next := .ack (w64 (3 * x.cycle)) } else { x with log := .flush x.tasks, next := .does .ackRoots }
def Mu.lookN (M : MapM) : Nat → Mu → Mu
  | 0, x => x.flushRoots
  | n + 1, x =>
    if M.Room (x.roots.getD x.k 0) = 0 then Mu.lookN M n { x with k := x.k + 1 }
    else { x with k := x.k + 1, log := .log (x.roots.getD x.k 0) x.cycle, next := .does .look }
def Mu.look (M : MapM) (x : Mu) : Mu := Mu.lookN M (x.roots.length - x.k) x
def Mu.logNew (M : MapM) (x : Mu) : Mu :=
  if M.Room (x.root x.op.c) = 0 then { x with next := .write } else { x with log := .log (x.root x.op.c) x.armed, next := .does .setWrite }
def Mu.thn (M : MapM) (x : Mu) : Thn → Mu
  | .begin_ => x.begin_ M
  | .look => x.look M
  | .ackRoots => { x with next := .ack (w64 (3 * x.cycle)) }
  | .logNew => x.logNew M
  | .setWrite => { x with next := .write }
def MapM.isNode (M : MapM) (w : Int) : Int := if w > M.nodes then 0 else w
def Mu.step0 (M : MapM) (x : Mu) (l : Wds) : Mu × Wds :=
  match x.next with
  | .pop => (({ x with roots := x.roots.dropLast } : Mu).end_ ⟨11, 0, 0, 0, 0⟩, l)
  | .dup => (({ x with roots := x.roots ++ [x.roots.getD x.op.a.toNat 0] } : Mu).end_ ⟨12, 0, x.op.a, 0, 0⟩, l)
  | .fail e => (x.fail e, l)
  | .made =>
    if (x.alloc.step M l).1.next = .nil then
      if (x.alloc.step M l).1.e ≠ 0 then (({ x with alloc := (x.alloc.step M l).1 } : Mu).fail (x.alloc.step M l).1.e, (x.alloc.step M l).2)
      else (({ x with alloc := (x.alloc.step M l).1, roots := x.roots ++ [(x.alloc.step M l).1.node] } : Mu).end_ (x.alloc.step M l).1.event, (x.alloc.step M l).2)
    else ({ x with alloc := (x.alloc.step M l).1 }, (x.alloc.step M l).2)
  | .head =>
    if x.op.b < 0 ∨ x.op.b ≥ ld l (M.Header (x.root x.op.a)) then (x.fail 21, l)
    else ({ x with next := if x.op.kind = 2 then .old else .read }, l)
  | .read => (({ x with roots := x.roots ++ [M.isNode (ld l (M.Slot (x.root x.op.a) x.op.b))] } : Mu).end_ ⟨9, 0, x.op.a, x.op.b, M.isNode (ld l (M.Slot (x.root x.op.a) x.op.b))⟩, l)
  | .old =>
    if M.Room (M.isNode (ld l (M.Slot (x.root x.op.a) x.op.b))) = 0 then (x.logNew M, l)
    else ({ x with log := .log (M.isNode (ld l (M.Slot (x.root x.op.a) x.op.b))) x.armed, next := .does .logNew }, l)
  | .write => (x.end_ ⟨10, 0, x.op.a, x.op.b, x.op.c⟩, put l (M.Slot (x.root x.op.a) x.op.b) (x.root x.op.c))
  | .does t =>
    if (x.log.step M x.tasks l).1.next = .nil then
      (({ x with log := (x.log.step M x.tasks l).1, tasks := (x.log.step M x.tasks l).2.1, event := (x.log.step M x.tasks l).1.event } : Mu).thn M t, (x.log.step M x.tasks l).2.2)
    else ({ x with log := (x.log.step M x.tasks l).1, tasks := (x.log.step M x.tasks l).2.1, event := (x.log.step M x.tasks l).1.event }, (x.log.step M x.tasks l).2.2)
  | .safe =>
    if ld l 0 % 8 = 1 ∧ x.armed ≠ ld l 0 / 8 then ({ x with cycle := ld l 0 / 8, armed := ld l 0 / 8, next := .ack (w64 (3 * (ld l 0 / 8) - 2)) }, l)
    else if ld l 0 % 8 = 2 ∧ x.still ≠ ld l 0 / 8 then ({ x with cycle := ld l 0 / 8, still := ld l 0 / 8, next := .ack (w64 (3 * (ld l 0 / 8) - 1)) }, l)
    else if ld l 0 % 8 = 3 ∧ x.tint ≠ ld l 0 / 8 then (({ x with cycle := ld l 0 / 8, k := 0 } : Mu).look M, l)
    else if x.tasks = [] then (({ x with cycle := ld l 0 / 8 } : Mu).begin_ M, l)
    else ({ x with cycle := ld l 0 / 8, log := .flush x.tasks, next := .does .begin_ }, l)
  | .ack w =>
    (({ x with tint := if w = w64 (3 * x.cycle) then x.cycle else x.tint, event := ⟨14, 0, if w < 9223372036854775808 then w else w - 18446744073709551616, 0, 0⟩ } : Mu).begin_ M, put l (M.Ack x.i) w)
def Mu.step (M : MapM) (x : Mu) (l : Wds) : Mu × Wds := ({ x with event := ev0 } : Mu).step0 M l
structure De where
  doing : Nat
  cycle : Int
  turn : Int
  event : Ev
def De.new : De := ⟨0, 0, 0, ev0⟩
def De.tell (x : De) (phase : Int) (l : Wds) : De × Wds :=
  ({ x with event := ⟨7, 0, phase, if x.cycle < 9223372036854775808 then x.cycle else x.cycle - 18446744073709551616, 0⟩, turn := 0, doing := (x.doing + 1) % 14 }, put l 0 (phaseW x.cycle phase))
def De.said (M : MapM) (x : De) (least : Int) (l : Wds) : De × Wds :=
  if ld l (M.Ack x.turn) < least then (x, l)
  else if x.turn + 1 < M.mutators then ({ x with turn := x.turn + 1 }, l)
  else ({ x with turn := x.turn + 1, doing := x.doing + 1 }, l)
def De.count (x : De) (thn : Nat) (l : Wds) : De × Wds := ({ x with doing := if ld l 1 ≠ 0 then 7 else thn }, l)
def De.step0 (M : MapM) (x : De) (l : Wds) (draw : Int) : De × Wds :=
  match x.doing with
  | 0 => if draw % 2 = 0 then (x, l) else De.tell { x with cycle := w64 (x.cycle + 1) } 1 l
  | 1 => x.said M (w64 (3 * x.cycle - 2)) l
  | 2 => x.tell 2 l
  | 3 => x.said M (w64 (3 * x.cycle - 1)) l
  | 4 => x.tell 3 l
  | 5 => x.said M (w64 (3 * x.cycle)) l
  | 6 => x.tell 4 l
  | 7 => x.count 8 l
  | 8 => x.count 9 l
  | 9 => ({ x with doing := 10 }, put l 2 (pair (w32 x.cycle) 0))
  | 10 => ({ x with doing := 11 }, put l 3 0)
  | 11 => x.tell 5 l
  | 12 => if ld l 3 ≠ M.parts then (x, l) else ({ x with doing := 13 }, l)
  | 13 => x.tell 0 l
  | _ => (x, l)
def De.step (M : MapM) (x : De) (l : Wds) (draw : Int) : De × Wds := ({ x with event := ev0 } : De).step0 M l draw
structure Wo where
  l : Wds
  markers : List Mk
  mutators : List Mu
  det : De
  log : List Ev
def Wo.actors (W : Wo) : Nat := W.markers.length + W.mutators.length + 1
def mk0 : Mk := ⟨0, ⟨0, bag0, 0, .pop ⟨0, 0, 0, 0⟩, .take, 0, false, .nil⟩, .new 0 0 0, .new 0, bag0, 0, false, ev0, .look⟩
def mu0 : Mu := ⟨0, [], op0, [], [], 0, 0, 0, 0, 0, .new 0 0, .log 0 0, ev0, .safe⟩
def Wo.steps (M : MapM) (W : Wo) (who : Nat) (draw : Int) : Wo × Ev :=
  if who < W.markers.length then
    ({ W with l := ((W.markers.getD who mk0).step M W.l draw).2, markers := W.markers.set who ((W.markers.getD who mk0).step M W.l draw).1 }, ((W.markers.getD who mk0).step M W.l draw).1.event)
  else if who < W.markers.length + W.mutators.length then
    ({ W with l := ((W.mutators.getD (who - W.markers.length) mu0).step M W.l).2, mutators := W.mutators.set (who - W.markers.length) ((W.mutators.getD (who - W.markers.length) mu0).step M W.l).1 },
      ((W.mutators.getD (who - W.markers.length) mu0).step M W.l).1.event)
  else ({ W with l := (W.det.step M W.l draw).2, det := (W.det.step M W.l draw).1 }, (W.det.step M W.l draw).1.event)
def Wo.step (M : MapM) (W : Wo) (who : Nat) (draw : Int) : Wo × Ev :=
  if (W.steps M who draw).2.kind = 0 then ((W.steps M who draw).1, ev0)
  else ({ (W.steps M who draw).1 with log := (W.steps M who draw).1.log ++ [{ (W.steps M who draw).2 with who := who }] }, { (W.steps M who draw).2 with who := who })
structure Cfg where
  k0 : Int
  k1 : Int
  k2 : Int
  k3 : Int
  k4 : Int
  markers : Int
  mutators : Int
  deque : Int
  chunk : Int
  buffer : Int
  roots : Int
  sweep : Int
def Cfg.ok (c : Cfg) : Bool :=
  decide (0 ≤ c.k0 ∧ c.k0 ≤ 12) && decide (0 ≤ c.k1 ∧ c.k1 ≤ 12) && decide (0 ≤ c.k2 ∧ c.k2 ≤ 12) && decide (0 ≤ c.k3 ∧ c.k3 ≤ 12) && decide (0 ≤ c.k4 ∧ c.k4 ≤ 12) &&
  decide (1 ≤ c.markers ∧ c.markers ≤ 4) && decide (1 ≤ c.mutators ∧ c.mutators ≤ 4) && decide (2 ≤ c.deque ∧ c.deque ≤ 8) && decide (1 ≤ c.chunk ∧ c.chunk ≤ 16) &&
  decide (1 ≤ c.buffer ∧ c.buffer ≤ 4) && decide (1 ≤ c.roots ∧ c.roots ≤ 8) && decide (1 ≤ c.sweep ∧ c.sweep ≤ 16) && decide (c.k0 + c.k1 + c.k2 + c.k3 + c.k4 ≠ 0)
def Cfg.nodes (c : Cfg) : Int := c.k0 + c.k1 + c.k2 + c.k3 + c.k4
def Cfg.class_ (c : Cfg) (v : Int) : Int :=
  if v < 1 then -1 else if v ≤ c.k0 then 0 else if v - c.k0 ≤ c.k1 then 1 else if v - c.k0 - c.k1 ≤ c.k2 then 2
  else if v - c.k0 - c.k1 - c.k2 ≤ c.k3 then 3 else if v - c.k0 - c.k1 - c.k2 - c.k3 ≤ c.k4 then 4 else -1
def Cfg.room (c : Cfg) : List Int := (List.range c.nodes.toNat).map fun (i : Nat) => slotsOf (c.class_ (i + 1))
def Cfg.many (c : Cfg) : Int := c.room.foldl (fun n r => n + (r + c.chunk - 1) / c.chunk) (c.nodes + 2 * c.markers + c.mutators)
def offs : List Int → Int → List Int
  | [], _ => []
  | r :: rs, a => a :: offs rs (a + (4 + r))
def offEnd : List Int → Int → Int
  | [], a => a
  | r :: rs, a => offEnd rs (a + (4 + r))
def Cfg.node0 (c : Cfg) : Int := 6 + c.mutators + 5 + c.markers * (2 + c.deque) + c.many * 6
def Cfg.map (c : Cfg) : MapM :=
  { ack := 6, head := 6 + c.mutators, deques := 6 + c.mutators + 5, packets := 6 + c.mutators + 5 + c.markers * (2 + c.deque), node0 := c.node0,
    nodes := c.nodes, many := c.many, parts := (c.nodes + c.sweep - 1) / c.sweep, all := offEnd c.room c.node0,
    k0 := c.k0, k1 := c.k1, k2 := c.k2, k3 := c.k3, k4 := c.k4, markers := c.markers, mutators := c.mutators, deque := c.deque, chunk := c.chunk, buffer := c.buffer, roots := c.roots, sweep := c.sweep,
    at_ := offs c.room c.node0, room := c.room }
def linkUp (M : MapM) : Nat → Nat → Wds → Wds
  | 0, _, l => l
  | n + 1, p, l => linkUp M n (p + 1) (l.set (M.Link p).toNat (p + 1))
def freeUp (M : MapM) : Nat → Wds → Wds
  | 0, l => l
  | v + 1, l => freeUp M v ((l.set (M.Next (v + 1)).toNat (l.getD (M.Head (M.Class (v + 1))).toNat 0)).set (M.Head (M.Class (v + 1))).toNat (v + 1))
def MapM.first (M : MapM) : Wds :=
  freeUp M (M.nodes - 1).toNat (((linkUp M (M.many - 1).toNat 1 ((List.replicate M.all.toNat 0).set 5 1)).set (M.State M.nodes).toNat 1).set (M.Header M.nodes).toNat (M.Room M.nodes))
def Wo.new (M : MapM) (programs : List (List MOp)) : Wo :=
  ⟨M.first, (List.range M.markers.toNat).map fun (i : Nat) => .new M i, (List.range M.mutators.toNat).map fun (i : Nat) => .new M i (programs.getD i []), .new, []⟩
def awakeC : Cfg := ⟨2, 0, 0, 0, 0, 1, 1, 2, 1, 1, 2, 1⟩
def awakeM : MapM := awakeC.map
def awakeW : Wo := .new awakeM [[⟨0, 1, 0, 0⟩, ⟨3, 0, 0, 0⟩]]
def runN (M : MapM) (who : Nat) (draw : Int) : Nat → Wo → Wo
  | 0, W => W
  | n + 1, W => runN M who draw n (W.step M who draw).1
def roundsN (M : MapM) (draw : Int) : Nat → Nat → Wo → Wo × Bool
  | 0, _, W => (W, false)
  | n + 1, who, W =>
    if (W.step M who draw).2.kind = 7 ∧ (W.step M who draw).2.a = 0 then ((W.step M who draw).1, true)
    else roundsN M draw n (if who + 1 = W.actors then 0 else who + 1) (W.step M who draw).1
theorem mul_bd {a b x y : Int} (h0 : 0 ≤ a) (h1 : a ≤ x) (h2 : 0 ≤ b) (h3 : b ≤ y) : 0 ≤ a * b ∧ a * b ≤ x * y :=
  ⟨Int.mul_nonneg h0 h2, Int.mul_le_mul h1 h3 h2 (by omega)⟩
theorem five {k : Int} (h : 0 ≤ k ∧ k < 5) : k = 0 ∨ k = 1 ∨ k = 2 ∨ k = 3 ∨ k = 4 := by omega
structure Cfg.Sm (c : Cfg) : Prop where
  k0 : 0 ≤ c.k0 ∧ c.k0 ≤ 12
  k1 : 0 ≤ c.k1 ∧ c.k1 ≤ 12
  k2 : 0 ≤ c.k2 ∧ c.k2 ≤ 12
  k3 : 0 ≤ c.k3 ∧ c.k3 ≤ 12
  k4 : 0 ≤ c.k4 ∧ c.k4 ≤ 12
theorem Cfg.ok_iff {c : Cfg} : c.ok = true ↔ (0 ≤ c.k0 ∧ c.k0 ≤ 12) ∧ (0 ≤ c.k1 ∧ c.k1 ≤ 12) ∧ (0 ≤ c.k2 ∧ c.k2 ≤ 12) ∧ (0 ≤ c.k3 ∧ c.k3 ≤ 12) ∧ (0 ≤ c.k4 ∧ c.k4 ≤ 12) ∧
    (1 ≤ c.markers ∧ c.markers ≤ 4) ∧ (1 ≤ c.mutators ∧ c.mutators ≤ 4) ∧ (2 ≤ c.deque ∧ c.deque ≤ 8) ∧ (1 ≤ c.chunk ∧ c.chunk ≤ 16) ∧ (1 ≤ c.buffer ∧ c.buffer ≤ 4) ∧ (1 ≤ c.roots ∧ c.roots ≤ 8) ∧ (1 ≤ c.sweep ∧ c.sweep ≤ 16) ∧ c.k0 + c.k1 + c.k2 + c.k3 + c.k4 ≠ 0 := by
  unfold Cfg.ok
  simp only [Bool.and_eq_true, decide_eq_true_eq, and_assoc]
structure Cfg.Ok (c : Cfg) : Prop where
  sm : c.Sm
  markers : 1 ≤ c.markers ∧ c.markers ≤ 4
  mutators : 1 ≤ c.mutators ∧ c.mutators ≤ 4
  deque : 2 ≤ c.deque ∧ c.deque ≤ 8
  chunk : 1 ≤ c.chunk ∧ c.chunk ≤ 16
  buffer : 1 ≤ c.buffer ∧ c.buffer ≤ 4
  roots : 1 ≤ c.roots ∧ c.roots ≤ 8
  sweep : 1 ≤ c.sweep ∧ c.sweep ≤ 16
  nodes : 1 ≤ c.nodes ∧ c.nodes ≤ 60
theorem Cfg.Ok.of {c : Cfg} (h : c.ok = true) : c.Ok := by
  obtain ⟨h0, h1, h2, h3, h4, h5, h6, h7, h8, h9, h10, h11, h12⟩ := Cfg.ok_iff.1 h
  exact ⟨⟨h0, h1, h2, h3, h4⟩, h5, h6, h7, h8, h9, h10, h11, by unfold Cfg.nodes; omega⟩
theorem class_rng {c : Cfg} (h : c.Ok) {v : Int} (hv : 1 ≤ v ∧ v ≤ c.nodes) : 0 ≤ c.class_ v ∧ c.class_ v < 5 := by
  obtain ⟨h0, h1, h2, h3, h4⟩ := h.sm
  unfold Cfg.nodes at hv
  unfold Cfg.class_
  split
  · omega
  · split
    · omega
    · split
      · omega
      · split
        · omega
        · split
          · omega
          · split <;> omega
theorem slotsOf_rng (k : Int) (hk : 0 ≤ k ∧ k < 5) : 1 ≤ slotsOf k ∧ slotsOf k ≤ 16 := by
  rcases five hk with rfl | rfl | rfl | rfl | rfl <;> decide
theorem room_len (c : Cfg) : c.room.length = c.nodes.toNat := by simp [Cfg.room]
theorem room_get {c : Cfg} {i : Nat} (hi : i < c.nodes.toNat) : c.room.getD i 0 = slotsOf (c.class_ ((i : Int) + 1)) := by
  unfold Cfg.room
  rw [List.getD_eq_getElem?_getD, List.getElem?_map, List.getElem?_range hi]
  rfl
theorem room_take {c : Cfg} {i : Nat} (hi : i < c.nodes.toNat) : c.room.take (i + 1) = c.room.take i ++ [slotsOf (c.class_ ((i : Int) + 1))] := by
  have h1 : i < c.room.length := by rw [room_len]; exact hi
  rw [List.take_add_one, List.getElem?_eq_getElem h1, ← room_get hi, List.getD_eq_getElem?_getD, List.getElem?_eq_getElem h1]
  rfl
theorem rooms_rng {c : Cfg} (h : c.Ok) : ∀ r ∈ c.room, 1 ≤ r ∧ r ≤ 16 := fun r hr => by
  obtain ⟨i, hi, rfl⟩ := List.mem_iff_getElem.1 hr
  have h1 : i < c.nodes.toNat := by rw [← room_len]; exact hi
  have h2 := room_get h1
  rw [List.getD_eq_getElem?_getD, List.getElem?_eq_getElem hi] at h2
  simp only [Option.getD_some] at h2
  rw [h2]
  exact slotsOf_rng _ (class_rng h (by omega))
def Cfg.manyAt (c : Cfg) (i : Nat) : Int := (c.room.take i).foldl (fun n r => n + (r + c.chunk - 1) / c.chunk) (c.nodes + 2 * c.markers + c.mutators)
theorem manyAt_succ {c : Cfg} {i : Nat} (hi : i < c.nodes.toNat) : c.manyAt (i + 1) = c.manyAt i + (slotsOf (c.class_ ((i : Int) + 1)) + c.chunk - 1) / c.chunk := by
  unfold Cfg.manyAt
  rw [room_take hi, List.foldl_append]
  rfl
theorem manyAt_all {c : Cfg} : c.manyAt c.nodes.toNat = c.many := by
  unfold Cfg.manyAt Cfg.many
  rw [← room_len, List.take_length]
theorem quo_rng {a b : Int} (ha : 0 ≤ a) (hb : 1 ≤ b) : 0 ≤ a / b ∧ a / b ≤ a := ⟨Int.ediv_nonneg ha (by omega), Int.ediv_le_self _ ha⟩
theorem manyAt_rng {c : Cfg} (h : c.Ok) : ∀ (i : Nat), i ≤ c.nodes.toNat → 0 ≤ c.manyAt i ∧ c.manyAt i ≤ 72 + 31 * i
  | 0, _ => by
    have := h.nodes; have := h.markers; have := h.mutators
    simp only [Cfg.manyAt, List.take_zero, List.foldl_nil]
    omega
  | i + 1, hi => by
    have ih := manyAt_rng h i (by omega)
    have hn := h.nodes
    have h1 := slotsOf_rng _ (class_rng h (v := (i : Int) + 1) (by omega))
    have hc := h.chunk
    rw [manyAt_succ (by omega)]
    have := quo_rng (a := slotsOf (c.class_ ((i : Int) + 1)) + c.chunk - 1) (b := c.chunk) (by omega) hc.1
    omega
theorem offs_snoc : ∀ (l : List Int) (r a : Int), offs (l ++ [r]) a = offs l a ++ [offEnd l a]
  | [], _, _ => rfl
  | x :: l, r, a => by
    show a :: offs (l ++ [r]) (a + (4 + x)) = a :: (offs l (a + (4 + x)) ++ [offEnd l (a + (4 + x))])
    rw [offs_snoc l r]
theorem offEnd_snoc : ∀ (l : List Int) (r a : Int), offEnd (l ++ [r]) a = offEnd l a + (4 + r)
  | [], _, _ => rfl
  | x :: l, r, a => offEnd_snoc l r (a + (4 + x))
theorem offs_len : ∀ (l : List Int) (a : Int), (offs l a).length = l.length
  | [], _ => rfl
  | x :: l, a => by simp [offs, offs_len l]
theorem offEnd_rng : ∀ (l : List Int) (a : Int), (∀ r ∈ l, 1 ≤ r ∧ r ≤ 16) → a ≤ offEnd l a ∧ offEnd l a ≤ a + 20 * l.length
  | [], a, _ => by simp [offEnd]
  | x :: l, a, h => by
    have h1 := h x (by simp)
    have h2 := offEnd_rng l (a + (4 + x)) (fun r hr => h r (by simp [hr]))
    simp only [offEnd, List.length_cons]
    omega
theorem offs_rng : ∀ (l : List Int) (a : Int) (i : Nat), (∀ r ∈ l, 1 ≤ r ∧ r ≤ 16) → i < l.length → a ≤ (offs l a).getD i 0 ∧ (offs l a).getD i 0 < a + 20 * l.length
  | [], _, _, _, h => by simp at h
  | x :: l, a, 0, h, _ => by simp [offs]; omega
  | x :: l, a, i + 1, h, hi => by
    have h1 := h x (by simp)
    have h2 := offs_rng l (a + (4 + x)) i (fun r hr => h r (by simp [hr])) (by simpa using hi)
    simp only [offs, List.getD_cons_succ, List.length_cons]
    omega
theorem Cfg.map_ok {c : Cfg} (h : c.Ok) : c.map.Ok := by
  have hn := h.nodes
  have hm := manyAt_rng h c.nodes.toNat (Nat.le_refl _)
  rw [manyAt_all] at hm
  have h1 := h.markers; have h2 := h.mutators; have h3 := h.deque; have h4 := h.sweep
  have hq := quo_rng (a := c.nodes + c.sweep - 1) (b := c.sweep) (by omega) h4.1
  have hmd : 0 ≤ c.markers * (2 + c.deque) ∧ c.markers * (2 + c.deque) ≤ 4 * 10 := mul_bd (by omega) (by omega) (by omega) (by omega)
  have hnode0 : c.node0 = 6 + c.mutators + 5 + c.markers * (2 + c.deque) + c.many * 6 := rfl
  obtain ⟨s0, s1, s2, s3, s4⟩ := h.sm
  refine ⟨by simp only [Cfg.map]; omega, by simp only [Cfg.map]; omega, by simp only [Cfg.map]; omega, by simp only [Cfg.map]; omega, by simp only [Cfg.map]; omega, by simp only [Cfg.map]; omega, ⟨s0, s1, s2, s3, s4⟩, h1, h2, h3, h.chunk, h.buffer, h.roots, h4, hn, ?_, room_len c, fun i => ?_, fun i hi => ?_⟩
  · simp only [Cfg.map, offs_len, room_len]
  · simp only [Cfg.map]
    by_cases hi : i < c.room.length
    · have := offs_rng c.room c.node0 i (rooms_rng h) hi
      rw [room_len] at this
      omega
    · rw [List.getD_eq_getElem?_getD, List.getElem?_eq_none (by rw [offs_len]; omega)]
      simp
  · have hi' : i < c.nodes.toNat := hi
    rw [show c.map.room = c.room from rfl, room_get hi']
    exact slotsOf_rng _ (class_rng h (by omega))
theorem room_take2 {c : Cfg} {i : Nat} (hi : i < c.nodes.toNat) : c.room.take (i + 1) = c.room.take i ++ [c.room.getD i 0] := by rw [room_take hi, room_get hi]
theorem offs_take {c : Cfg} {i : Nat} {a : Int} (hi : i < c.nodes.toNat) : offs (c.room.take (i + 1)) a = offs (c.room.take i) a ++ [offEnd (c.room.take i) a] := by rw [room_take2 hi, offs_snoc]
theorem offEnd_take {c : Cfg} {i : Nat} {a : Int} (hi : i < c.nodes.toNat) : offEnd (c.room.take (i + 1)) a = offEnd (c.room.take i) a + (4 + c.room.getD i 0) := by rw [room_take2 hi, offEnd_snoc]
theorem room_all {c : Cfg} : c.room.take c.nodes.toNat = c.room := by rw [← room_len, List.take_length]
theorem room_at_rng {c : Cfg} (h : c.Ok) {i : Nat} (hi : i < c.nodes.toNat) : 1 ≤ c.room.getD i 0 ∧ c.room.getD i 0 ≤ 16 := by
  have hn := h.nodes
  rw [room_get hi]
  exact slotsOf_rng _ (class_rng h (by omega))
theorem offEnd_take_rng {c : Cfg} (h : c.Ok) (i : Nat) (a : Int) : a ≤ offEnd (c.room.take i) a ∧ offEnd (c.room.take i) a ≤ a + 1200 := by
  have hn := h.nodes
  have h1 := offEnd_rng (c.room.take i) a (fun r hr => rooms_rng h r (List.mem_of_mem_take hr))
  have h2 : (c.room.take i).length ≤ c.nodes.toNat := by rw [List.length_take, room_len]; omega
  omega
theorem Cfg.nums {c : Cfg} (h : c.Ok) : (0 ≤ c.many ∧ c.many ≤ 2000) ∧ (0 ≤ (c.nodes + c.sweep - 1) / c.sweep ∧ (c.nodes + c.sweep - 1) / c.sweep ≤ 100) ∧ (0 ≤ c.markers * (2 + c.deque) ∧ c.markers * (2 + c.deque) ≤ 40) := by
  have hn := h.nodes
  have hm := manyAt_rng h c.nodes.toNat (Nat.le_refl _)
  rw [manyAt_all] at hm
  have h1 := h.markers; have h3 := h.deque; have h4 := h.sweep
  have hq := quo_rng (a := c.nodes + c.sweep - 1) (b := c.sweep) (by omega) h4.1
  have hmd : 0 ≤ c.markers * (2 + c.deque) ∧ c.markers * (2 + c.deque) ≤ 4 * 10 := mul_bd (by omega) (by omega) (by omega) (by omega)
  omega
theorem offs_end : ∀ (l : List Int) (a : Int) (i : Nat), (∀ r ∈ l, 1 ≤ r ∧ r ≤ 16) → i < l.length → a ≤ (offs l a).getD i 0 ∧ (offs l a).getD i 0 + (4 + l.getD i 0) ≤ offEnd l a
  | [], _, _, _, h => by simp at h
  | x :: l, a, 0, h, _ => by
    have h1 := offEnd_rng l (a + (4 + x)) (fun r hr => h r (by simp [hr]))
    simp only [offs, offEnd, List.getD_cons_zero]
    omega
  | x :: l, a, i + 1, h, hi => by
    have h1 := h x (by simp)
    have h2 := offs_end l (a + (4 + x)) i (fun r hr => h r (by simp [hr])) (by simpa using hi)
    simp only [offs, offEnd, List.getD_cons_succ]
    omega
theorem map_room {c : Cfg} {v : Int} (hv : 1 ≤ v ∧ v ≤ c.nodes) : c.map.Room v = c.room.getD (v - 1).toNat 0 := by
  unfold MapM.Room
  rw [if_neg (by show ¬ (v < 1 ∨ v > c.nodes); omega)]
  rfl
theorem map_room_rng {c : Cfg} (h : c.Ok) {v : Int} (hv : 1 ≤ v ∧ v ≤ c.nodes) : 1 ≤ c.map.Room v ∧ c.map.Room v ≤ 16 := by
  rw [map_room hv]
  exact room_at_rng h (by omega)
theorem map_node {c : Cfg} (h : c.Ok) {v j : Int} (hv : 1 ≤ v ∧ v ≤ c.nodes) : c.map.node v j = (offs c.room c.node0).getD (v - 1).toNat 0 + j := by
  have := map_room_rng h hv
  unfold MapM.node
  rw [if_neg (by omega)]
  rfl
theorem node_rng {c : Cfg} (h : c.Ok) {v j : Int} (hv : 1 ≤ v ∧ v ≤ c.nodes) (hj : 0 ≤ j ∧ j < 4 + c.map.Room v) : c.node0 ≤ c.map.node v j ∧ c.map.node v j < c.map.all := by
  have hi : (v - 1).toNat < c.room.length := by rw [room_len]; omega
  have h1 := offs_end c.room c.node0 (v - 1).toNat (rooms_rng h) hi
  rw [map_node h hv]
  rw [map_room hv] at hj
  have : c.map.all = offEnd c.room c.node0 := rfl
  omega
theorem all_rng {c : Cfg} (h : c.Ok) : c.node0 ≤ c.map.all ∧ c.map.all ≤ c.node0 + 1200 := by
  have := offEnd_take_rng h c.nodes.toNat c.node0
  rw [room_all] at this
  exact this
theorem link_rng {c : Cfg} (h : c.Ok) {p : Int} (hp : 1 ≤ p ∧ p ≤ c.many) : 11 ≤ c.map.Link p ∧ c.map.Link p < c.node0 := by
  obtain ⟨h1, h2, h3⟩ := Cfg.nums h
  have := h.mutators
  have hn : c.node0 = 6 + c.mutators + 5 + c.markers * (2 + c.deque) + c.many * 6 := rfl
  unfold MapM.Link MapM.packet
  rw [if_neg (by show ¬ (p < 1 ∨ p > c.many); omega)]
  show 11 ≤ (6 + c.mutators + 5 + c.markers * (2 + c.deque)) + (p - 1) * 6 + 1 ∧ (6 + c.mutators + 5 + c.markers * (2 + c.deque)) + (p - 1) * 6 + 1 < c.node0
  omega
theorem head_rng {c : Cfg} (h : c.Ok) {k : Int} (hk : 0 ≤ k ∧ k < 5) : c.map.Head k = 6 + c.mutators + k ∧ 6 + c.mutators + k < c.node0 := by
  obtain ⟨h1, h2, h3⟩ := Cfg.nums h
  have hn : c.node0 = 6 + c.mutators + 5 + c.markers * (2 + c.deque) + c.many * 6 := rfl
  unfold MapM.Head
  rw [if_neg (by omega)]
  exact ⟨rfl, by omega⟩
theorem linkUp_len (M : MapM) : ∀ (n p : Nat) (l : Wds), (linkUp M n p l).length = l.length
  | 0, _, _ => rfl
  | n + 1, p, l => by rw [linkUp, linkUp_len M n]; simp
theorem freeUp_len (M : MapM) : ∀ (n : Nat) (l : Wds), (freeUp M n l).length = l.length
  | 0, _ => rfl
  | n + 1, l => by rw [freeUp, freeUp_len M n]; simp
theorem manyAt_mono {c : Cfg} (h : c.Ok) : ∀ (i : Nat), i ≤ c.nodes.toNat → c.nodes ≤ c.manyAt i
  | 0, _ => by
    have := h.markers; have := h.mutators
    simp only [Cfg.manyAt, List.take_zero, List.foldl_nil]
    omega
  | i + 1, hi => by
    have ih := manyAt_mono h i (by omega)
    have hn := h.nodes
    have h1 := slotsOf_rng _ (class_rng h (v := (i : Int) + 1) (by omega))
    have hc := h.chunk
    rw [manyAt_succ (by omega)]
    have := quo_rng (a := slotsOf (c.class_ ((i : Int) + 1)) + c.chunk - 1) (b := c.chunk) (by omega) hc.1
    omega
theorem manyAt_ge {c : Cfg} (h : c.Ok) : 1 ≤ c.many := by
  have := manyAt_mono h c.nodes.toNat (Nat.le_refl _)
  rw [manyAt_all] at this
  have := h.nodes
  omega
theorem first_len {c : Cfg} : c.map.first.length = c.map.all.toNat := by
  unfold MapM.first
  rw [freeUp_len, List.length_set, List.length_set, linkUp_len, List.length_set, List.length_replicate]
theorem ack_ge {c : Cfg} (h : c.Ok) {i : Int} (hi : 0 ≤ i ∧ i < c.mutators) : c.map.Ack i ≥ 0 := by
  unfold MapM.Ack
  rw [if_neg (by show ¬ (i < 0 ∨ i ≥ c.mutators); omega)]
  show 6 + i ≥ 0
  omega
def markL (o : List Int) (v s : Int) : List Int := if v < 1 ∨ v ≥ o.length then o else o.set v.toNat (if o.getD v.toNat 0 = 0 then s else 4)
theorem markL_len {o : List Int} {v s : Int} : (markL o v s).length = o.length := by
  unfold markL
  split
  · rfl
  · rw [List.length_set]
def walkN (M : MapM) (l : Wds) : Nat → Int → List Int
  | 0, _ => []
  | n + 1, a => if 0 ≤ a ∧ a < l.length ∧ w32 (l.getD a.toNat 0) ≠ 0 then w32 (l.getD a.toNat 0) :: walkN M l n (M.Next (w32 (l.getD a.toNat 0))) else []
def thereN (M : MapM) (l : Wds) : Nat → Nat → List Int → List Int
  | 0, _, o => o
  | m + 1, v, o => thereN M l m (v + 1) (if ld l (M.State v) = 1 then markL o v 1 else o)
def putN (M : MapM) (k : Nat) : List Int → List Int → List Int
  | [], o => o
  | v :: W, o => putN M k W (if M.Class v = (k : Int) then markL o v 2 else o)
def listN (M : MapM) (l : Wds) : Nat → Nat → List Int → List Int
  | 0, _, o => o
  | m + 1, k, o => listN M l m (k + 1) (putN M k (walkN M l (M.nodes.toNat + 1) (M.Head k)) o)
def census (M : MapM) (l : Wds) : List Int := listN M l 5 0 (thereN M l M.nodes.toNat 1 (List.replicate (M.nodes.toNat + 1) 0))
def pickOf (zs : List Int) (i : Nat) : Int := zs.getD i 0
def runS (M : MapM) (zs : List Int) (W : Wo) : Nat → Wo
  | 0 => W
  | i + 1 => ((runS M zs W i).step M ((pickOf zs i / 2).toNat % (runS M zs W i).actors) (pickOf zs i * 7 + i)).1
def evS (M : MapM) (zs : List Int) (W : Wo) (i : Nat) : Ev := ((runS M zs W i).step M ((pickOf zs i / 2).toNat % (runS M zs W i).actors) (pickOf zs i * 7 + i)).2
def badEv (n : Int) (e : Ev) : Prop := ((1 ≤ e.kind ∧ e.kind ≤ 4) ∧ e.a ≠ n) ∨ e.kind = 5 ∨ (8 ≤ e.kind ∧ e.kind ≤ 13)
structure Chg (F : Nat → Prop) (w w' : World) : Prop where
  os : w'.os = w.os
  tape : w'.tape = w.tape
  output : w'.output = w.output
  size : w.heap.size ≤ w'.heap.size
  block : ∀ k, k < w.heap.size → ¬ F k → w'.heap[k]? = w.heap[k]?
theorem Chg.refl (F : Nat → Prop) (w : World) : Chg F w w := ⟨rfl, rfl, rfl, Nat.le_refl _, fun _ _ _ => rfl⟩
theorem Chg.trans {F : Nat → Prop} {w w1 w2 : World} (h : Chg F w w1) (k : Chg F w1 w2) : Chg F w w2 :=
  ⟨k.os.trans h.os, k.tape.trans h.tape, k.output.trans h.output, Nat.le_trans h.size k.size, fun i h1 h2 => (k.block i (Nat.lt_of_lt_of_le h1 h.size) h2).trans (h.block i h1 h2)⟩
theorem Chg.mono {F G : Nat → Prop} {w w' : World} (h : Chg F w w') (hFG : ∀ k, F k → G k) : Chg G w w' := ⟨h.os, h.tape, h.output, h.size, fun k h1 h2 => h.block k h1 (fun h3 => h2 (hFG k h3))⟩
theorem Chg.below {F : Nat → Prop} {w w' : World} (h : Below w.heap.size w w') : Chg F w w' := ⟨h.os, h.tape, h.output, h.size, fun k hk _ => h.block k hk⟩
theorem Chg.setCell {F : Nat → Prop} {w w' : World} (h : Chg F w w') {g o : Nat} (u : Value) (hg : F g ∨ w.heap.size ≤ g) : Chg F w (w'.setCell ⟨g, o, none⟩ u) :=
  ⟨h.os, h.tape, h.output, by simpa [World.setCell] using h.size, fun k h1 h2 => (Below.heap_setCell _ _ _ _ (by
    show k ≠ g
    rcases hg with hg | hg
    · exact fun e => h2 (e ▸ hg)
    · omega)).trans (h.block k h1 h2)⟩
theorem Chg.drew {F : Nat → Prop} {w w' : World} (h : Chg F w w') : Chg F w w'.drew := ⟨h.os, h.tape, h.output, h.size, h.block⟩
theorem Chg.alloc {F : Nat → Prop} {w w' : World} (h : Chg F w w') (o : Obj) : Chg F w (w'.alloc o) := h.trans (Chg.below (below_alloc (Below.refl _ _) o))
theorem setCell_same {w : World} {b t : Nat} {cs : Array Value} (h : w.heap[b]? = some (.cells cs t (0, 0))) (i : Nat) (u : Value) : (w.setCell ⟨b, i, none⟩ u).heap[b]? = some (.cells (cs.setIfInBounds i u) t (0, 0)) := by
  unfold World.setCell
  simp [Array.getElem?_modify, h]
structure Cx where
  s : Nat
  g : Nat
  c : Nat
  m : Nat
  ga : Nat
  gr : Nat
  ca : Nat
  cr : Nat
  M : MapM
structure Mem (w : World) (C : Cx) (l : Wds) : Prop where
  ne : C.g ≠ C.s
  head : ∃ n : Int, w.heap[C.s]? = some (.cells #[.slice (some ⟨C.g, 0, none⟩) l.length C.c, .int .i64 n] 113 (0, 0))
  row : w.ownsRow 0 90 1 (.slice (some ⟨C.g, 0, none⟩) l.length C.c) l.length (l.map (Value.int .u64))
  rng : ∀ i, 0 ≤ l.getD i 0 ∧ l.getD i 0 ≤ 18446744073709551615
def wordP (g : Nat) (l : Wds) (at_ : Int) : Value := if inM l at_ then .pointer (some ⟨g, at_.toNat, none⟩) else .pointer none
theorem Mem.lt {w : World} {C : Cx} {l : Wds} (h : Mem w C l) : C.s < w.heap.size ∧ C.g < w.heap.size := by
  obtain ⟨n, hn⟩ := h.head
  exact ⟨lt_of_block hn, (World.ownsRow.lt h.row C.g rfl).2⟩
theorem Mem.chg {w w' : World} {C : Cx} {l : Wds} (h : Mem w C l) {F : Nat → Prop} (hb : Chg F w w') (h1 : ¬ F C.s) (h2 : ¬ F C.g) : Mem w' C l := by
  obtain ⟨n, hn⟩ := h.head
  refine ⟨h.ne, ⟨n, (hb.block C.s h.lt.1 h1).trans hn⟩, own_move h.row (fun k hk => ?_), h.rng⟩
  have e : C.g = k := by simpa [Value.ownBlock] using hk
  subst e
  exact hb.block C.g h.lt.2 h2
theorem put_rng {l : Wds} (h : ∀ i, 0 ≤ l.getD i 0 ∧ l.getD i 0 ≤ 18446744073709551615) (a : Nat) (v : Int) (hv : 0 ≤ v ∧ v ≤ 18446744073709551615) (i : Nat) : 0 ≤ (l.set a v).getD i 0 ∧ (l.set a v).getD i 0 ≤ 18446744073709551615 := by
  rw [List.getD_eq_getElem?_getD, List.getElem?_set]
  split
  · split
    · exact hv
    · show 0 ≤ (0 : Int) ∧ (0 : Int) ≤ _
      omega
  · rw [← List.getD_eq_getElem?_getD]
    exact h i
set_option maxHeartbeats 1000000 in
theorem word_calls (w : World) (C : Cx) (l : Wds) (at_ : Int) (h : Mem w C l) :
    Calls Tryz.prog 66 #[.pointer (some ⟨C.s, 0, none⟩), .int .i64 at_] w fun e w' => e = .returned (wordP C.g l at_) ∧ Mem w' C l ∧ Chg (fun k => k = C.s) w w' := by
  obtain ⟨n, hn⟩ := h.head
  obtain ⟨hne, _, hrow, hrng⟩ := h
  have hc0 : w.cell? ⟨C.s, 0, none⟩ = some (.slice (some ⟨C.g, 0, none⟩) l.length C.c) := by simp [World.cell?, hn]
  have hc1 : w.cell? ⟨C.s, 1, none⟩ = some (.int .i64 n) := by simp [World.cell?, hn]
  have hf1 : w.frozen? ⟨C.s, 1, none⟩ = false := by simp [World.frozen?, hn]
  have hmem : ∀ m : Int, Mem (w.setCell ⟨C.s, 1, none⟩ (.int .i64 m)) C l := fun m => by
    refine ⟨hne, ⟨m, ?_⟩, own_move hrow (fun k hk => ?_), hrng⟩
    · exact setCell_same hn 1 _
    · have e : C.g = k := by simpa [Value.ownBlock] using hk
      subst e
      exact Below.heap_setCell _ _ _ _ hne
  have hchg : ∀ m : Int, Chg (fun k => k = C.s) w (w.setCell ⟨C.s, 1, none⟩ (.int .i64 m)) := fun m => (Chg.refl _ w).setCell _ (Or.inl rfl)
  have HMem := Aside0.mk hmem
  have HChg := Aside0.mk hchg
  clear hmem hchg hn hrow hne hrng
  by_cases h1 : at_ < 0
  · have hW := Aside0.mk (show wordP C.g l at_ = .pointer none from if_neg (fun h => by have := h.1; omega))
    go_enter Tryz.func66, Tryz.ntmps66
    go_wp2
    go_ret
    exact ⟨by rw [hW.out]; rfl, HMem.out _, HChg.out _⟩
  by_cases h2 : at_ < l.length
  · have hW := Aside0.mk (show wordP C.g l at_ = .pointer (some ⟨C.g, at_.toNat, none⟩) from if_pos ⟨by omega, h2⟩)
    go_enter Tryz.func66, Tryz.ntmps66
    go_wp2
    go_ret
    exact ⟨by rw [hW.out]; rfl, HMem.out _, HChg.out _⟩
  · have hW := Aside0.mk (show wordP C.g l at_ = .pointer none from if_neg (fun h => by have := h.2; omega))
    go_enter Tryz.func66, Tryz.ntmps66
    go_wp2
    go_ret
    exact ⟨by rw [hW.out]; rfl, HMem.out _, HChg.out _⟩
theorem Mem.cell {w : World} {C : Cx} {l : Wds} (h : Mem w C l) (i : Nat) (hi : i < l.length) : w.cell? ⟨C.g, i, none⟩ = some (.int .u64 (l.getD i 0)) ∧ w.frozen? ⟨C.g, i, none⟩ = false := by
  refine ⟨?_, World.ownsRow.frozenAt h.row i⟩
  rw [World.ownsRow.cellAt h.row i (by omega)]
  simp [List.getD_eq_getElem?_getD, List.getElem?_eq_getElem hi]
theorem Mem.store {w : World} {C : Cx} {l : Wds} (h : Mem w C l) (i : Nat) (v : Int) (hv : 0 ≤ v ∧ v ≤ 18446744073709551615) : Mem (w.setCell ⟨C.g, i, none⟩ (.int .u64 v)) C (l.set i v) := by
  obtain ⟨n, hn⟩ := h.head
  refine ⟨h.ne, ⟨n, ?_⟩, ?_, put_rng h.rng i v hv⟩
  · rw [List.length_set, Below.heap_setCell _ _ _ _ (fun e => h.ne e.symm)]
    exact hn
  · have := (World.ownsRow.stored h.row i (.int .u64 v)).1
    rw [List.length_set, List.map_set]
    exact this
def Cx.memF (C : Cx) : Nat → Prop := fun k => k = C.s ∨ k = C.g
set_option maxHeartbeats 1000000 in
theorem Load_calls (w : World) (C : Cx) (l : Wds) (at_ : Int) (h : Mem w C l) :
    Calls Tryz.prog 32 #[.pointer (some ⟨C.s, 0, none⟩), .int .i64 at_] w fun e w' => e = .returned (.int .u64 (ld l at_)) ∧ Mem w' C l ∧ Chg C.memF w w' := by
  have HM := Aside0.mk h
  clear h
  by_cases h1 : inM l at_
  · have hL := Aside0.mk (show ld l at_ = l.getD at_.toNat 0 from if_pos h1)
    have hW := Aside0.mk (show wordP C.g l at_ = .pointer (some ⟨C.g, at_.toNat, none⟩) from if_pos h1)
    have hlt : at_.toNat < l.length := by have := h1.1; have := h1.2; omega
    go_enter Tryz.func32, Tryz.ntmps32
    go_wp2_with fail
    refine (word_calls _ C l at_ HM.out).mono ?_
    rintro e w1 ⟨rfl, hm, hch⟩
    have HM1 := Aside0.mk hm
    have HC1 := Aside0.mk (hch.mono (fun k hk => (Or.inl hk : C.memF k)))
    obtain ⟨c0, -⟩ := hm.cell at_.toNat hlt
    generalize l.getD at_.toNat 0 = x at *
    rw [hW.out]
    clear hm hch h1
    go_wp2
    go_ret
    exact ⟨by rw [hL.out]; rfl, HM1.out, HC1.out⟩
  · have hL := Aside0.mk (show ld l at_ = 0 from if_neg h1)
    have hW := Aside0.mk (show wordP C.g l at_ = .pointer none from if_neg h1)
    go_enter Tryz.func32, Tryz.ntmps32
    go_wp2_with fail
    refine (word_calls _ C l at_ HM.out).mono ?_
    rintro e w1 ⟨rfl, hm, hch⟩
    have HM1 := Aside0.mk hm
    have HC1 := Aside0.mk (hch.mono (fun k hk => (Or.inl hk : C.memF k)))
    rw [hW.out]
    clear hm hch h1
    go_wp2
    go_ret
    exact ⟨by rw [hL.out]; rfl, HM1.out, HC1.out⟩
set_option maxHeartbeats 1000000 in
theorem Put_calls (w : World) (C : Cx) (l : Wds) (at_ v : Int) (hv : 0 ≤ v ∧ v ≤ 18446744073709551615) (h : Mem w C l) :
    Calls Tryz.prog 148 #[.pointer (some ⟨C.s, 0, none⟩), .int .i64 at_, .int .u64 v] w fun e w' => e = .returned (.tuple #[]) ∧ Mem w' C (put l at_ v) ∧ Chg C.memF w w' := by
  have HM := Aside0.mk h
  have HV := Aside0.mk hv
  clear h hv
  by_cases h1 : inM l at_
  · have hL := Aside0.mk (show put l at_ v = l.set at_.toNat v from if_pos h1)
    have hW := Aside0.mk (show wordP C.g l at_ = .pointer (some ⟨C.g, at_.toNat, none⟩) from if_pos h1)
    have hlt : at_.toNat < l.length := by have := h1.1; have := h1.2; omega
    go_enter Tryz.func148, Tryz.ntmps148
    go_wp2_with fail
    refine (word_calls _ C l at_ HM.out).mono ?_
    rintro e w1 ⟨rfl, hm, hch⟩
    have HM1 := Aside0.mk hm
    have HC1 := Aside0.mk (hch.mono (fun k hk => (Or.inl hk : C.memF k)))
    obtain ⟨c0, f0⟩ := hm.cell at_.toNat hlt
    rw [hW.out]
    clear hm hch h1
    go_wp2
    go_end0
    exact ⟨rfl, by rw [hL.out]; exact HM1.out.store _ _ HV.out, HC1.out.setCell _ (Or.inl (Or.inr rfl))⟩
  · have hL := Aside0.mk (show put l at_ v = l from if_neg h1)
    have hW := Aside0.mk (show wordP C.g l at_ = .pointer none from if_neg h1)
    go_enter Tryz.func148, Tryz.ntmps148
    go_wp2_with fail
    refine (word_calls _ C l at_ HM.out).mono ?_
    rintro e w1 ⟨rfl, hm, hch⟩
    have HM1 := Aside0.mk hm
    have HC1 := Aside0.mk (hch.mono (fun k hk => (Or.inl hk : C.memF k)))
    rw [hW.out]
    clear hm hch h1
    go_wp2
    go_end0
    exact ⟨rfl, by rw [hL.out]; exact HM1.out, HC1.out⟩
set_option maxHeartbeats 1000000 in
theorem Swap_calls (w : World) (C : Cx) (l : Wds) (at_ old v : Int) (hv : 0 ≤ v ∧ v ≤ 18446744073709551615) (h : Mem w C l) :
    Calls Tryz.prog 175 #[.pointer (some ⟨C.s, 0, none⟩), .int .i64 at_, .int .u64 old, .int .u64 v] w fun e w' => e = .returned (.bool (casB l at_ old)) ∧ Mem w' C (cas l at_ old v) ∧ Chg C.memF w w' := by
  have HM := Aside0.mk h
  have HV := Aside0.mk hv
  clear h hv
  by_cases h1 : inM l at_
  · have hL : ld l at_ = l.getD at_.toNat 0 := if_pos h1
    have hW := Aside0.mk (show wordP C.g l at_ = .pointer (some ⟨C.g, at_.toNat, none⟩) from if_pos h1)
    have hlt : at_.toNat < l.length := by have := h1.1; have := h1.2; omega
    have hP := Aside0.mk (show put l at_ v = l.set at_.toNat v from if_pos h1)
    by_cases h2 : ld l at_ = old
    · have hB := Aside0.mk (show casB l at_ old = true from decide_eq_true ⟨h1, h2⟩)
      have hC := Aside0.mk (show cas l at_ old v = put l at_ v by unfold cas; rw [hB.out, if_pos rfl])
      rw [hL] at h2
      go_enter Tryz.func175, Tryz.ntmps175
      go_wp2_with fail
      refine (word_calls _ C l at_ HM.out).mono ?_
      rintro e w1 ⟨rfl, hm, hch⟩
      have HM1 := Aside0.mk hm
      have HC1 := Aside0.mk (hch.mono (fun k hk => (Or.inl hk : C.memF k)))
      obtain ⟨c0, f0⟩ := hm.cell at_.toNat hlt
      rw [h2] at c0
      rw [hW.out]
      clear hm hch h1 hL h2
      go_wp2
      go_ret
      exact ⟨by rw [hB.out]; rfl, by rw [hC.out, hP.out]; exact HM1.out.store _ _ HV.out, HC1.out.setCell _ (Or.inl (Or.inr rfl))⟩
    · have hB := Aside0.mk (show casB l at_ old = false from decide_eq_false (fun h => h2 h.2))
      have hC := Aside0.mk (show cas l at_ old v = l by unfold cas; rw [hB.out, if_neg (by simp)])
      rw [hL] at h2
      go_enter Tryz.func175, Tryz.ntmps175
      go_wp2_with fail
      refine (word_calls _ C l at_ HM.out).mono ?_
      rintro e w1 ⟨rfl, hm, hch⟩
      have HM1 := Aside0.mk hm
      have HC1 := Aside0.mk (hch.mono (fun k hk => (Or.inl hk : C.memF k)))
      obtain ⟨c0, f0⟩ := hm.cell at_.toNat hlt
      generalize l.getD at_.toNat 0 = x at *
      rw [hW.out]
      clear hm hch h1 hL
      have h3 : (x != old) = true := bne_iff_ne.2 h2
      go_wp2
      go_ret
      exact ⟨by rw [hB.out]; rfl, by rw [hC.out]; exact HM1.out, HC1.out⟩
  · have hW := Aside0.mk (show wordP C.g l at_ = .pointer none from if_neg h1)
    have hB := Aside0.mk (show casB l at_ old = false from decide_eq_false (fun h => h1 h.1))
    have hC := Aside0.mk (show cas l at_ old v = l by unfold cas; rw [hB.out, if_neg (by simp)])
    go_enter Tryz.func175, Tryz.ntmps175
    go_wp2_with fail
    refine (word_calls _ C l at_ HM.out).mono ?_
    rintro e w1 ⟨rfl, hm, hch⟩
    have HM1 := Aside0.mk hm
    have HC1 := Aside0.mk (hch.mono (fun k hk => (Or.inl hk : C.memF k)))
    rw [hW.out]
    clear hm hch h1
    go_wp2
    go_ret
    exact ⟨by rw [hB.out]; rfl, by rw [hC.out]; exact HM1.out, HC1.out⟩
theorem w64_rng (x : Int) : 0 ≤ w64 x ∧ w64 x ≤ 18446744073709551615 := by unfold w64; omega
set_option maxHeartbeats 1000000 in
theorem Add_calls (w : World) (C : Cx) (l : Wds) (at_ n : Int) (h : Mem w C l) :
    Calls Tryz.prog 221 #[.pointer (some ⟨C.s, 0, none⟩), .int .i64 at_, .int .u64 n] w fun e w' => e = .returned (.int .u64 (ld l at_)) ∧ Mem w' C (fad l at_ n) ∧ Chg C.memF w w' := by
  have HM := Aside0.mk h
  have HV := Aside0.mk (w64_rng (ld l at_ + n))
  clear h
  by_cases h1 : inM l at_
  · have hL := Aside0.mk (show ld l at_ = l.getD at_.toNat 0 from if_pos h1)
    have hP := Aside0.mk (show fad l at_ n = l.set at_.toNat (w64 (ld l at_ + n)) from if_pos h1)
    have hW := Aside0.mk (show wordP C.g l at_ = .pointer (some ⟨C.g, at_.toNat, none⟩) from if_pos h1)
    have hlt : at_.toNat < l.length := by have := h1.1; have := h1.2; omega
    go_enter Tryz.func221, Tryz.ntmps221
    go_wp2_with fail
    refine (word_calls _ C l at_ HM.out).mono ?_
    rintro e w1 ⟨rfl, hm, hch⟩
    have HM1 := Aside0.mk hm
    have HC1 := Aside0.mk (hch.mono (fun k hk => (Or.inl hk : C.memF k)))
    obtain ⟨c0, f0⟩ := hm.cell at_.toNat hlt
    generalize l.getD at_.toNat 0 = x at *
    rw [hW.out]
    clear hm hch h1
    go_wp2
    go_ret
    refine ⟨by rw [hL.out]; rfl, ?_, HC1.out.setCell _ (Or.inl (Or.inr rfl))⟩
    rw [hP.out]
    have := HM1.out.store at_.toNat _ HV.out
    rw [hL.out] at this ⊢
    exact this
  · have hL := Aside0.mk (show ld l at_ = 0 from if_neg h1)
    have hP := Aside0.mk (show fad l at_ n = l from if_neg h1)
    have hW := Aside0.mk (show wordP C.g l at_ = .pointer none from if_neg h1)
    go_enter Tryz.func221, Tryz.ntmps221
    go_wp2_with fail
    refine (word_calls _ C l at_ HM.out).mono ?_
    rintro e w1 ⟨rfl, hm, hch⟩
    have HM1 := Aside0.mk hm
    have HC1 := Aside0.mk (hch.mono (fun k hk => (Or.inl hk : C.memF k)))
    rw [hW.out]
    clear hm hch h1
    go_wp2
    go_ret
    exact ⟨by rw [hL.out]; rfl, by rw [hP.out]; exact HM1.out, HC1.out⟩
def Cx.mcells (C : Cx) : Array Value := #[.int .i64 C.M.ack, .int .i64 C.M.head, .int .i64 C.M.deques, .int .i64 C.M.packets, .int .i64 C.M.node0, .int .i64 C.M.nodes, .int .i64 C.M.many, .int .i64 C.M.parts, .int .i64 C.M.all, .int .i64 C.M.k0, .int .i64 C.M.k1, .int .i64 C.M.k2, .int .i64 C.M.k3, .int .i64 C.M.k4, .int .i64 C.M.markers, .int .i64 C.M.mutators, .int .i64 C.M.deque, .int .i64 C.M.chunk, .int .i64 C.M.buffer, .int .i64 C.M.roots, .int .i64 C.M.sweep, .slice (some ⟨C.ga, 0, none⟩) C.M.at_.length C.ca, .slice (some ⟨C.gr, 0, none⟩) C.M.room.length C.cr]
structure MapAt (w : World) (C : Cx) : Prop where
  ok : C.M.Ok
  mb : w.heap[C.m]? = some (.cells C.mcells 109 (0, 0))
  ra : w.ownsRow 0 3 1 (.slice (some ⟨C.ga, 0, none⟩) C.M.at_.length C.ca) C.M.at_.length (C.M.at_.map (Value.int .i64))
  rr : w.ownsRow 0 3 1 (.slice (some ⟨C.gr, 0, none⟩) C.M.room.length C.cr) C.M.room.length (C.M.room.map (Value.int .i64))
set_option maxHeartbeats 1000000 in
theorem single_calls (w : World) (C : Cx) (n : Int) : Calls Tryz.prog 103 #[.pointer (some ⟨C.m, 0, none⟩), .int .i64 n] w fun e w' => e = .returned (.int .i64 n) ∧ w' = w := by
  go_enter Tryz.func103, Tryz.ntmps103
  go_wp2
  go_ret
  exact ⟨rfl, rfl⟩
set_option maxHeartbeats 1000000 in
theorem Room_calls (w : World) (C : Cx) (h : MapAt w C) (v : Int) : Calls Tryz.prog 55 #[.pointer (some ⟨C.m, 0, none⟩), .int .i64 v] w fun e w' => e = .returned (.int .i64 (C.M.Room v)) ∧ w' = w := by
  obtain ⟨hok, hm, ha, hr⟩ := h
  have hc5 : w.cell? ⟨C.m, 5, none⟩ = some (.int .i64 C.M.nodes) := by simp [World.cell?, hm, Cx.mcells]
  have hc22 : w.cell? ⟨C.m, 22, none⟩ = some (.slice (some ⟨C.gr, 0, none⟩) C.M.room.length C.cr) := by simp [World.cell?, hm, Cx.mcells]
  have hl := hok.room
  have hn := hok.nodes
  by_cases h1 : v < 1 ∨ v > C.M.nodes
  · have hR := Aside0.mk (show C.M.Room v = 0 from if_pos h1)
    clear ha hr hm
    by_cases h2 : v < 1
    · go_enter Tryz.func55, Tryz.ntmps55
      go_wp2
      go_ret
      exact ⟨by rw [hR.out]; rfl, rfl⟩
    · have h3 : v > C.M.nodes := by omega
      go_enter Tryz.func55, Tryz.ntmps55
      go_wp2
      go_ret
      exact ⟨by rw [hR.out]; rfl, rfl⟩
  · have hR := Aside0.mk (show C.M.Room v = C.M.room.getD (v - 1).toNat 0 from if_neg h1)
    have hlt : (v - 1).toNat < C.M.room.length := by omega
    have hx : w.cell? ⟨C.gr, (v - 1).toNat, none⟩ = some (.int .i64 (C.M.room.getD (v - 1).toNat 0)) := by
      rw [World.ownsRow.cellAt hr _ (by omega), List.getElem?_map, List.getElem?_eq_getElem hlt, List.getD_eq_getElem?_getD, List.getElem?_eq_getElem hlt]
      rfl
    generalize C.M.room.getD (v - 1).toNat 0 = x at *
    have h2 : ¬ v < 1 := by omega
    have h3 : ¬ v > C.M.nodes := by omega
    have h4 : 0 ≤ v - 1 := by omega
    have h5 : v - 1 < (C.M.room.length : Int) := by omega
    generalize C.M.room.length = rl at *
    rw [show (v - 1).toNat = v.toNat - 1 by omega] at hx
    clear ha hr hm hl
    go_enter Tryz.func55, Tryz.ntmps55
    go_wp2
    go_ret
    exact ⟨by rw [hR.out]; rfl, rfl⟩
set_option maxHeartbeats 1000000 in
theorem Phase_calls (w : World) (C : Cx) : Calls Tryz.prog 83 #[.pointer (some ⟨C.m, 0, none⟩)] w fun e w' => e = .returned (.int .i64 0) ∧ w' = w := by
  go_enter Tryz.func83, Tryz.ntmps83
  go_wp2_with fail
  refine (single_calls _ C 0).mono ?_
  rintro e w1 ⟨rfl, rfl⟩
  go_wp2
  go_ret
  exact ⟨rfl, rfl⟩
set_option maxHeartbeats 1000000 in
theorem Work_calls (w : World) (C : Cx) : Calls Tryz.prog 165 #[.pointer (some ⟨C.m, 0, none⟩)] w fun e w' => e = .returned (.int .i64 1) ∧ w' = w := by
  go_enter Tryz.func165, Tryz.ntmps165
  go_wp2_with fail
  refine (single_calls _ C 1).mono ?_
  rintro e w1 ⟨rfl, rfl⟩
  go_wp2
  go_ret
  exact ⟨rfl, rfl⟩
set_option maxHeartbeats 1000000 in
theorem Sweep_calls (w : World) (C : Cx) : Calls Tryz.prog 143 #[.pointer (some ⟨C.m, 0, none⟩)] w fun e w' => e = .returned (.int .i64 2) ∧ w' = w := by
  go_enter Tryz.func143, Tryz.ntmps143
  go_wp2_with fail
  refine (single_calls _ C 2).mono ?_
  rintro e w1 ⟨rfl, rfl⟩
  go_wp2
  go_ret
  exact ⟨rfl, rfl⟩
set_option maxHeartbeats 1000000 in
theorem Done_calls (w : World) (C : Cx) : Calls Tryz.prog 166 #[.pointer (some ⟨C.m, 0, none⟩)] w fun e w' => e = .returned (.int .i64 3) ∧ w' = w := by
  go_enter Tryz.func166, Tryz.ntmps166
  go_wp2_with fail
  refine (single_calls _ C 3).mono ?_
  rintro e w1 ⟨rfl, rfl⟩
  go_wp2
  go_ret
  exact ⟨rfl, rfl⟩
set_option maxHeartbeats 1000000 in
theorem Pool_calls (w : World) (C : Cx) : Calls Tryz.prog 192 #[.pointer (some ⟨C.m, 0, none⟩)] w fun e w' => e = .returned (.int .i64 4) ∧ w' = w := by
  go_enter Tryz.func192, Tryz.ntmps192
  go_wp2_with fail
  refine (single_calls _ C 4).mono ?_
  rintro e w1 ⟨rfl, rfl⟩
  go_wp2
  go_ret
  exact ⟨rfl, rfl⟩
set_option maxHeartbeats 1000000 in
theorem Spare_calls (w : World) (C : Cx) : Calls Tryz.prog 188 #[.pointer (some ⟨C.m, 0, none⟩)] w fun e w' => e = .returned (.int .i64 5) ∧ w' = w := by
  go_enter Tryz.func188, Tryz.ntmps188
  go_wp2_with fail
  refine (single_calls _ C 5).mono ?_
  rintro e w1 ⟨rfl, rfl⟩
  go_wp2
  go_ret
  exact ⟨rfl, rfl⟩
set_option maxHeartbeats 1000000 in
theorem Ack_calls (w : World) (C : Cx) (h : MapAt w C) (i : Int) : Calls Tryz.prog 60 #[.pointer (some ⟨C.m, 0, none⟩), .int .i64 i] w fun e w' => e = .returned (.int .i64 (C.M.Ack i)) ∧ w' = w := by
  obtain ⟨hok, hm, ha, hr⟩ := h
  have hc0 : w.cell? ⟨C.m, 0, none⟩ = some (.int .i64 C.M.ack) := by simp [World.cell?, hm, Cx.mcells]
  have hc15 : w.cell? ⟨C.m, 15, none⟩ = some (.int .i64 C.M.mutators) := by simp [World.cell?, hm, Cx.mcells]
  have hb0 := hok.ack
  have hb15 := hok.mutators
  clear ha hr hm hok
  by_cases h0 : i < 0
  · have hR := Aside0.mk (show C.M.Ack i = -1 from if_pos (Or.inl h0))
    go_enter Tryz.func60, Tryz.ntmps60
    go_wp2
    go_ret
    exact ⟨by rw [hR.out]; rfl, rfl⟩
  by_cases h1 : i ≥ C.M.mutators
  · have hR := Aside0.mk (show C.M.Ack i = -1 from if_pos (Or.inr h1))
    go_enter Tryz.func60, Tryz.ntmps60
    go_wp2
    go_ret
    exact ⟨by rw [hR.out]; rfl, rfl⟩
  have hR := Aside0.mk (show C.M.Ack i = C.M.ack + i from if_neg (by omega))
  go_enter Tryz.func60, Tryz.ntmps60
  go_wp2
  go_ret
  exact ⟨by rw [hR.out]; rfl, rfl⟩
set_option maxHeartbeats 1000000 in
theorem Head_calls (w : World) (C : Cx) (h : MapAt w C) (k : Int) : Calls Tryz.prog 35 #[.pointer (some ⟨C.m, 0, none⟩), .int .i64 k] w fun e w' => e = .returned (.int .i64 (C.M.Head k)) ∧ w' = w := by
  obtain ⟨hok, hm, ha, hr⟩ := h
  have hc1 : w.cell? ⟨C.m, 1, none⟩ = some (.int .i64 C.M.head) := by simp [World.cell?, hm, Cx.mcells]
  have hb1 := hok.head
  clear ha hr hm hok
  by_cases h0 : k < 0
  · have hR := Aside0.mk (show C.M.Head k = -1 from if_pos (Or.inl h0))
    go_enter Tryz.func35, Tryz.ntmps35
    go_wp2
    go_ret
    exact ⟨by rw [hR.out]; rfl, rfl⟩
  by_cases h1 : k ≥ 5
  · have hR := Aside0.mk (show C.M.Head k = -1 from if_pos (Or.inr h1))
    go_enter Tryz.func35, Tryz.ntmps35
    go_wp2
    go_ret
    exact ⟨by rw [hR.out]; rfl, rfl⟩
  have hR := Aside0.mk (show C.M.Head k = C.M.head + k from if_neg (by omega))
  go_enter Tryz.func35, Tryz.ntmps35
  go_wp2
  go_ret
  exact ⟨by rw [hR.out]; rfl, rfl⟩
set_option maxHeartbeats 1000000 in
theorem end__calls (w : World) (C : Cx) (h : MapAt w C) (i : Int) (j : Int) (hj : 0 ≤ j ∧ j ≤ 100) : Calls Tryz.prog 81 #[.pointer (some ⟨C.m, 0, none⟩), .int .i64 i, .int .i64 j] w fun e w' => e = .returned (.int .i64 (C.M.end_ i j)) ∧ ∃ n, w' = w.drewN n := by
  obtain ⟨hok, hm, ha, hr⟩ := h
  have hc2 : w.cell? ⟨C.m, 2, none⟩ = some (.int .i64 C.M.deques) := by simp [World.cell?, hm, Cx.mcells]
  have hc14 : w.cell? ⟨C.m, 14, none⟩ = some (.int .i64 C.M.markers) := by simp [World.cell?, hm, Cx.mcells]
  have hc16 : w.cell? ⟨C.m, 16, none⟩ = some (.int .i64 C.M.deque) := by simp [World.cell?, hm, Cx.mcells]
  have hb2 := hok.deques
  have hb14 := hok.markers
  have hb16 := hok.deque
  clear ha hr hm hok
  by_cases h0 : i < 0
  · have hR := Aside0.mk (show C.M.end_ i j = -1 from if_pos (Or.inl h0))
    go_enter Tryz.func81, Tryz.ntmps81
    go_wp2
    go_ret
    exact ⟨by rw [hR.out]; rfl, 0, rfl⟩
  by_cases h1 : i ≥ C.M.markers
  · have hR := Aside0.mk (show C.M.end_ i j = -1 from if_pos (Or.inr h1))
    go_enter Tryz.func81, Tryz.ntmps81
    go_wp2
    go_ret
    exact ⟨by rw [hR.out]; rfl, 0, rfl⟩
  have hR := Aside0.mk (show C.M.end_ i j = C.M.deques + i * (2 + C.M.deque) + j from if_neg (by omega))
  have hmul := mul_bd (a := i) (b := 2 + C.M.deque) (x := 4) (y := 10) (by omega) (by omega) (by omega) (by omega)
  go_enter Tryz.func81, Tryz.ntmps81
  go_wp2
  go_quiet (fail)
  go_wp2
  go_ret
  exact ⟨by rw [hR.out]; rfl, nq, rfl⟩
set_option maxHeartbeats 1000000 in
theorem packet_calls (w : World) (C : Cx) (h : MapAt w C) (p : Int) (j : Int) (hj : 0 ≤ j ∧ j ≤ 100) : Calls Tryz.prog 80 #[.pointer (some ⟨C.m, 0, none⟩), .int .i64 p, .int .i64 j] w fun e w' => e = .returned (.int .i64 (C.M.packet p j)) ∧ w' = w := by
  obtain ⟨hok, hm, ha, hr⟩ := h
  have hc3 : w.cell? ⟨C.m, 3, none⟩ = some (.int .i64 C.M.packets) := by simp [World.cell?, hm, Cx.mcells]
  have hc6 : w.cell? ⟨C.m, 6, none⟩ = some (.int .i64 C.M.many) := by simp [World.cell?, hm, Cx.mcells]
  have hb3 := hok.packets
  have hb6 := hok.many
  clear ha hr hm hok
  by_cases h0 : p < 1
  · have hR := Aside0.mk (show C.M.packet p j = -1 from if_pos (Or.inl h0))
    go_enter Tryz.func80, Tryz.ntmps80
    go_wp2
    go_ret
    exact ⟨by rw [hR.out]; rfl, rfl⟩
  by_cases h1 : p > C.M.many
  · have hR := Aside0.mk (show C.M.packet p j = -1 from if_pos (Or.inr h1))
    go_enter Tryz.func80, Tryz.ntmps80
    go_wp2
    go_ret
    exact ⟨by rw [hR.out]; rfl, rfl⟩
  have hR := Aside0.mk (show C.M.packet p j = C.M.packets + (p - 1) * 6 + j from if_neg (by omega))
  go_enter Tryz.func80, Tryz.ntmps80
  go_wp2
  go_ret
  exact ⟨by rw [hR.out]; rfl, rfl⟩
set_option maxHeartbeats 1000000 in
theorem Top_calls (w : World) (C : Cx) (h : MapAt w C) (i : Int) : Calls Tryz.prog 57 #[.pointer (some ⟨C.m, 0, none⟩), .int .i64 i] w fun e w' => e = .returned (.int .i64 (C.M.Top i)) ∧ ∃ n, w' = w.drewN n := by
  go_enter Tryz.func57, Tryz.ntmps57
  go_wp2_with fail
  refine (end__calls _ C h i 0 (by omega)).mono ?_
  rintro e w1 ⟨rfl, nq, rfl⟩
  go_wp2
  go_ret
  exact ⟨rfl, nq, rfl⟩
set_option maxHeartbeats 1000000 in
theorem Bottom_calls (w : World) (C : Cx) (h : MapAt w C) (i : Int) : Calls Tryz.prog 136 #[.pointer (some ⟨C.m, 0, none⟩), .int .i64 i] w fun e w' => e = .returned (.int .i64 (C.M.Bottom i)) ∧ ∃ n, w' = w.drewN n := by
  go_enter Tryz.func136, Tryz.ntmps136
  go_wp2_with fail
  refine (end__calls _ C h i 1 (by omega)).mono ?_
  rintro e w1 ⟨rfl, nq, rfl⟩
  go_wp2
  go_ret
  exact ⟨rfl, nq, rfl⟩
set_option maxHeartbeats 1000000 in
theorem Entry_calls (w : World) (C : Cx) (h : MapAt w C) (i : Int) (j : Int) : Calls Tryz.prog 137 #[.pointer (some ⟨C.m, 0, none⟩), .int .i64 i, .int .i64 j] w fun e w' => e = .returned (.int .i64 (C.M.Entry i j)) ∧ ∃ n, w' = w.drewN n := by
  have hM := Aside0.mk h
  obtain ⟨hok, hm, ha, hr⟩ := h
  have hc16 : w.cell? ⟨C.m, 16, none⟩ = some (.int .i64 C.M.deque) := by simp [World.cell?, hm, Cx.mcells]
  have hb16 := hok.deque
  clear ha hr hm hok
  by_cases h0 : j < 0
  · have hR := Aside0.mk (show C.M.Entry i j = -1 from if_pos (Or.inl h0))
    go_enter Tryz.func137, Tryz.ntmps137
    go_wp2
    go_ret
    exact ⟨by rw [hR.out]; rfl, 0, rfl⟩
  by_cases h1 : j ≥ C.M.deque
  · have hR := Aside0.mk (show C.M.Entry i j = -1 from if_pos (Or.inr h1))
    go_enter Tryz.func137, Tryz.ntmps137
    go_wp2
    go_ret
    exact ⟨by rw [hR.out]; rfl, 0, rfl⟩
  have hR := Aside0.mk (show C.M.Entry i j = C.M.end_ i (2 + j) from if_neg (by omega))
  go_enter Tryz.func137, Tryz.ntmps137
  go_wp2_with fail
  refine (end__calls _ C hM.out i (2 + j) (by omega)).mono ?_
  rintro e w1 ⟨rfl, nq, rfl⟩
  go_wp2
  go_ret
  exact ⟨by rw [hR.out]; rfl, nq, rfl⟩
set_option maxHeartbeats 1000000 in
theorem Many_calls (w : World) (C : Cx) (h : MapAt w C) (p : Int) : Calls Tryz.prog 216 #[.pointer (some ⟨C.m, 0, none⟩), .int .i64 p] w fun e w' => e = .returned (.int .i64 (C.M.Many p)) ∧ w' = w := by
  go_enter Tryz.func216, Tryz.ntmps216
  go_wp2_with fail
  refine (packet_calls _ C h p 0 (by omega)).mono ?_
  rintro e w1 ⟨rfl, rfl⟩
  go_wp2
  go_ret
  exact ⟨rfl, rfl⟩
set_option maxHeartbeats 1000000 in
theorem Link_calls (w : World) (C : Cx) (h : MapAt w C) (p : Int) : Calls Tryz.prog 54 #[.pointer (some ⟨C.m, 0, none⟩), .int .i64 p] w fun e w' => e = .returned (.int .i64 (C.M.Link p)) ∧ w' = w := by
  go_enter Tryz.func54, Tryz.ntmps54
  go_wp2_with fail
  refine (packet_calls _ C h p 1 (by omega)).mono ?_
  rintro e w1 ⟨rfl, rfl⟩
  go_wp2
  go_ret
  exact ⟨rfl, rfl⟩
set_option maxHeartbeats 1000000 in
theorem Task_calls (w : World) (C : Cx) (h : MapAt w C) (p : Int) (j : Int) : Calls Tryz.prog 186 #[.pointer (some ⟨C.m, 0, none⟩), .int .i64 p, .int .i64 j] w fun e w' => e = .returned (.int .i64 (C.M.Task p j)) ∧ w' = w := by
  have hM := Aside0.mk h
  obtain ⟨hok, hm, ha, hr⟩ := h
  clear ha hr hm hok
  by_cases h0 : j < 0
  · have hR := Aside0.mk (show C.M.Task p j = -1 from if_pos (Or.inl h0))
    go_enter Tryz.func186, Tryz.ntmps186
    go_wp2
    go_ret
    exact ⟨by rw [hR.out]; rfl, rfl⟩
  by_cases h1 : j ≥ 4
  · have hR := Aside0.mk (show C.M.Task p j = -1 from if_pos (Or.inr h1))
    go_enter Tryz.func186, Tryz.ntmps186
    go_wp2
    go_ret
    exact ⟨by rw [hR.out]; rfl, rfl⟩
  have hR := Aside0.mk (show C.M.Task p j = C.M.packet p (2 + j) from if_neg (by omega))
  go_enter Tryz.func186, Tryz.ntmps186
  go_wp2_with fail
  refine (packet_calls _ C hM.out p (2 + j) (by omega)).mono ?_
  rintro e w1 ⟨rfl, rfl⟩
  go_wp2
  go_ret
  exact ⟨by rw [hR.out]; rfl, rfl⟩
set_option maxHeartbeats 1000000 in
theorem node_calls (w : World) (C : Cx) (h : MapAt w C) (v j : Int) (hj : 0 ≤ j ∧ j ≤ 100) : Calls Tryz.prog 67 #[.pointer (some ⟨C.m, 0, none⟩), .int .i64 v, .int .i64 j] w fun e w' => e = .returned (.int .i64 (C.M.node v j)) ∧ w' = w := by
  have hM := Aside0.mk h
  obtain ⟨hok, hm, ha, hr⟩ := h
  have hc21 : w.cell? ⟨C.m, 21, none⟩ = some (.slice (some ⟨C.ga, 0, none⟩) C.M.at_.length C.ca) := by simp [World.cell?, hm, Cx.mcells]
  have hl := hok.at_
  have hn := hok.nodes
  by_cases h1 : C.M.Room v = 0
  · have hR := Aside0.mk (show C.M.node v j = -1 from if_pos h1)
    have hz := Aside0.mk h1
    clear ha hr hm h1 hl hc21 hok
    go_enter Tryz.func67, Tryz.ntmps67
    go_wp2_with fail
    refine (Room_calls _ C hM.out v).mono ?_
    rintro e w1 ⟨rfl, rfl⟩
    rw [hz.out]
    go_wp2
    go_ret
    exact ⟨by rw [hR.out]; rfl, rfl⟩
  · have hR := Aside0.mk (show C.M.node v j = C.M.at_.getD (v - 1).toNat 0 + j from if_neg h1)
    have hv : 1 ≤ v ∧ v ≤ C.M.nodes := by
      unfold MapM.Room at h1
      by_cases e : v < 1 ∨ v > C.M.nodes
      · rw [if_pos e] at h1
        omega
      · omega
    have hbx := hok.ats (v - 1).toNat
    have hlt : (v - 1).toNat < C.M.at_.length := by omega
    have hx : w.cell? ⟨C.ga, (v - 1).toNat, none⟩ = some (.int .i64 (C.M.at_.getD (v - 1).toNat 0)) := by
      rw [World.ownsRow.cellAt ha _ (by omega), List.getElem?_map, List.getElem?_eq_getElem hlt, List.getD_eq_getElem?_getD, List.getElem?_eq_getElem hlt]
      rfl
    generalize C.M.at_.getD (v - 1).toNat 0 = x at *
    have h4 : 0 ≤ v - 1 := by omega
    have h5 : v - 1 < (C.M.at_.length : Int) := by omega
    generalize C.M.at_.length = rl at *
    rw [show (v - 1).toNat = v.toNat - 1 by omega] at hx
    generalize hy : C.M.Room v = y at *
    have h6 : (y == 0) = false := beq_eq_false_iff_ne.2 h1
    have hY := Aside0.mk hy
    clear ha hr hm hl hy hok
    go_enter Tryz.func67, Tryz.ntmps67
    go_wp2_with fail
    refine (Room_calls _ C hM.out v).mono ?_
    rintro e w1 ⟨rfl, rfl⟩
    rw [hY.out]
    go_wp2
    go_ret
    exact ⟨by rw [hR.out]; rfl, rfl⟩
set_option maxHeartbeats 1000000 in
theorem Header_calls (w : World) (C : Cx) (h : MapAt w C) (v : Int) : Calls Tryz.prog 56 #[.pointer (some ⟨C.m, 0, none⟩), .int .i64 v] w fun e w' => e = .returned (.int .i64 (C.M.Header v)) ∧ w' = w := by
  go_enter Tryz.func56, Tryz.ntmps56
  go_wp2_with fail
  refine (node_calls _ C h v 0 (by omega)).mono ?_
  rintro e w1 ⟨rfl, rfl⟩
  go_wp2
  go_ret
  exact ⟨rfl, rfl⟩
set_option maxHeartbeats 1000000 in
theorem State_calls (w : World) (C : Cx) (h : MapAt w C) (v : Int) : Calls Tryz.prog 33 #[.pointer (some ⟨C.m, 0, none⟩), .int .i64 v] w fun e w' => e = .returned (.int .i64 (C.M.State v)) ∧ w' = w := by
  go_enter Tryz.func33, Tryz.ntmps33
  go_wp2_with fail
  refine (node_calls _ C h v 1 (by omega)).mono ?_
  rintro e w1 ⟨rfl, rfl⟩
  go_wp2
  go_ret
  exact ⟨rfl, rfl⟩
set_option maxHeartbeats 1000000 in
theorem Mark_calls (w : World) (C : Cx) (h : MapAt w C) (v : Int) : Calls Tryz.prog 240 #[.pointer (some ⟨C.m, 0, none⟩), .int .i64 v] w fun e w' => e = .returned (.int .i64 (C.M.Mark v)) ∧ w' = w := by
  go_enter Tryz.func240, Tryz.ntmps240
  go_wp2_with fail
  refine (node_calls _ C h v 2 (by omega)).mono ?_
  rintro e w1 ⟨rfl, rfl⟩
  go_wp2
  go_ret
  exact ⟨rfl, rfl⟩
set_option maxHeartbeats 1000000 in
theorem Next_calls (w : World) (C : Cx) (h : MapAt w C) (v : Int) : Calls Tryz.prog 36 #[.pointer (some ⟨C.m, 0, none⟩), .int .i64 v] w fun e w' => e = .returned (.int .i64 (C.M.Next v)) ∧ w' = w := by
  go_enter Tryz.func36, Tryz.ntmps36
  go_wp2_with fail
  refine (node_calls _ C h v 3 (by omega)).mono ?_
  rintro e w1 ⟨rfl, rfl⟩
  go_wp2
  go_ret
  exact ⟨rfl, rfl⟩
set_option maxHeartbeats 1000000 in
theorem Nodes_calls (w : World) (C : Cx) (h : MapAt w C) : Calls Tryz.prog 30 #[.pointer (some ⟨C.m, 0, none⟩)] w fun e w' => e = .returned (.int .i64 C.M.nodes) ∧ w' = w := by
  obtain ⟨hok, hm, ha, hr⟩ := h
  have hc5 : w.cell? ⟨C.m, 5, none⟩ = some (.int .i64 C.M.nodes) := by simp [World.cell?, hm, Cx.mcells]
  have hb5 := hok.nodes
  clear ha hr hm hok
  go_enter Tryz.func30, Tryz.ntmps30
  go_wp2
  go_ret
  exact ⟨rfl, rfl⟩
set_option maxHeartbeats 1000000 in
theorem Parts_calls (w : World) (C : Cx) (h : MapAt w C) : Calls Tryz.prog 145 #[.pointer (some ⟨C.m, 0, none⟩)] w fun e w' => e = .returned (.int .i64 C.M.parts) ∧ w' = w := by
  obtain ⟨hok, hm, ha, hr⟩ := h
  have hc7 : w.cell? ⟨C.m, 7, none⟩ = some (.int .i64 C.M.parts) := by simp [World.cell?, hm, Cx.mcells]
  have hb7 := hok.parts
  clear ha hr hm hok
  go_enter Tryz.func145, Tryz.ntmps145
  go_wp2
  go_ret
  exact ⟨rfl, rfl⟩
set_option maxHeartbeats 1000000 in
theorem Common_calls (w : World) (C : Cx) (h : MapAt w C) : Calls Tryz.prog 11 #[.pointer (some ⟨C.m, 0, none⟩)] w fun e w' => e = .returned (.int .i64 C.M.nodes) ∧ w' = w := by
  go_enter Tryz.func11, Tryz.ntmps11
  go_wp2_with fail
  refine (Nodes_calls _ C h).mono ?_
  rintro e w1 ⟨rfl, rfl⟩
  go_wp2
  go_ret
  exact ⟨rfl, rfl⟩
abbrev Env := List (Nat × Value)
def lk : Env → Nat → Value
  | [], _ => undef
  | (d, v) :: e, t => bif Nat.beq d t then v else lk e t
def ev (e : Env) : Operand → Value
  | .tmp t => lk e t
  | .const v => v
  | .global g => .pointer (some ⟨g, 0, none⟩)
  | .func f => .func (.func f) #[] #[]
def pute (d : Option Tmp) (v : Value) (e : Env) : Env :=
  match d with
  | some t => (t, v) :: e
  | none => e
theorem lk_cons (d : Nat) (v : Value) (e : Env) (t : Nat) : lk ((d, v) :: e) t = if d = t then v else lk e t := by
  show (bif Nat.beq d t then v else lk e t) = _
  by_cases h : d = t
  · subst h
    rw [if_pos rfl, show Nat.beq d d = true from Nat.beq_refl d]
    rfl
  · rw [if_neg h, show Nat.beq d t = false from Bool.eq_false_iff.2 (fun e => h (Nat.eq_of_beq_eq_true e))]
    rfl
def eff (P : Program) (o : Oper) (ρ : Operand → Value) (w : World) (K : Value → World → Prop) : Prop :=
  match (execOp ρ o).run P w with
  | .ok (.value v) w' => K v w'
  | .ok .skip w' => K undef w'
  | .ok (.enter f args) w' => Calls P f args w' fun e w'' => ∃ v, e = .returned v ∧ K v w''
  | _ => False
theorem eff_mono {P : Program} {o : Oper} {ρ : Operand → Value} {w : World} {K K' : Value → World → Prop} (h : eff P o ρ w K) (hk : ∀ v w', K v w' → K' v w') : eff P o ρ w K' := by
  unfold eff at *
  split at h
  · exact hk _ _ h
  · exact hk _ _ h
  · exact Calls.mono h (fun e w'' he => by obtain ⟨v, h1, h2⟩ := he; exact ⟨v, h1, hk _ _ h2⟩)
  · exact h
theorem wp_of_eff {P : Program} {o : Oper} {a : Act} {w : World} {K : Value → World → Prop} {K' : Act → World → Prop} {Q : Exit → Act → World → Prop} (h : eff P o a.eval w K) (hk : ∀ v w', K v w' → K' (a.put o.dst v) w') : o.wp P a w K' Q := by
  unfold Oper.wp
  unfold eff at h
  split at h
  · rename_i heq; rw [heq]; exact hk _ _ h
  · rename_i heq; rw [heq]; exact hk _ _ h
  · rename_i heq
    rw [heq]
    exact Calls.mono h (fun e w'' he => by obtain ⟨v, rfl, h2⟩ := he; exact hk _ _ h2)
  · exact h.elim
def yE (ops : Array Oper) (e : Env) (j : Nat) : Option Bool :=
  match (ops[j]?).bind (·.dst) with
  | some t => match lk e t with
    | .bool b => some b
    | _ => none
  | none => none
def wantedE (ops : Array Oper) (o : Oper) (e : Env) : Bool := Region.wanted o (yE ops e)
def YE (P : Program) (ops : Array Oper) (S : World → Prop) (o : Oper) (v : Value) (e : Env) : Prop :=
  (wantedE ops o e = true ∧ ∀ w, S w → eff P o (ev e) w fun u w' => u = v ∧ S w') ∨ (wantedE ops o e = false ∧ v = undef)
def desc (ops : Array Oper) : Nat → Nat → Nat → Bool
  | 0, _, _ => false
  | f + 1, i, j => match ops[j]? with
    | some oj => oj.after.any fun e => Region.binds .any e && (e.on == i || desc ops f i e.on)
    | none => false
def X (P : Program) (ops : Array Oper) (lo ef : Nat → Bool) (K : (World → Prop) → Env → Prop) : List Nat → (World → Prop) → List (Nat × Value) → Env → Prop
  | [], S, _, e => K S e
  | i :: r, S, U, e => ∃ o, ops[i]? = some o ∧
      (bif ef i then wantedE ops o e = true ∧ ∀ w, S w → eff P o (ev e) w fun v w' => ∃ S' : World → Prop, S' w' ∧
          (∀ x ∈ U, desc ops ops.size x.1 i = false → ∃ ox, ops[x.1]? = some ox ∧ YE P ops S' ox x.2 e) ∧ X P ops lo ef K r S' U (pute o.dst v e)
       else ∃ v, YE P ops S o v e ∧ X P ops lo ef K r S (bif lo i then (i, v) :: U else U) (pute o.dst v e))
structure Fits (a : Act) (n : Nat) (e : Env) : Prop where
  defers : a.defers = []
  size : a.tmps.size = n
  at_ : ∀ t, a.tmps.getD t undef = lk e t
theorem Fits.put {a : Act} {n : Nat} {e : Env} (h : Fits a n e) (d : Option Tmp) (v : Value) (hd : ∀ t, d = some t → t < n) : Fits (a.put d v) n (pute d v e) := by
  cases d with
  | none => exact h
  | some t =>
    have ht := hd t rfl
    refine ⟨h.defers, by simp [Act.put, h.size], fun u => ?_⟩
    show _ = lk ((t, v) :: e) u
    rw [lk_cons]
    have hs := h.size
    by_cases he : t = u
    · subst he
      rw [if_pos rfl]
      simp [Act.put, hs, ht]
    · rw [if_neg he, ← h.at_ u]
      simp [Act.put, Array.getElem?_setIfInBounds_ne he]
theorem Fits.eval {a : Act} {n : Nat} {e : Env} (h : Fits a n e) : a.eval = ev e := by
  funext x
  cases x with
  | tmp t => exact h.at_ t
  | _ => rfl
theorem yielded_eq {ops : Array Oper} {a : Act} {e : Env} {j : Nat} (h : ∀ t, (ops[j]?).bind (·.dst) = some t → a.tmps.getD t undef = lk e t) : yielded ops a.tmps j = yE ops e j := by
  unfold yielded yE
  cases hd : (ops[j]?).bind (·.dst) with
  | none => rfl
  | some t =>
    have := h t hd
    simp only [Option.bind_some]
    rw [← this]
    cases hg : a.tmps[t]? with
    | none => simp [Array.getD_eq_getD_getElem?, hg, undef]
    | some v =>
      simp only [Array.getD_eq_getD_getElem?, hg, Option.getD_some]
      cases v <;> rfl
theorem wanted_eq {ops : Array Oper} {o : Oper} {a : Act} {e : Env} (h : ∀ j want, o.guard = some (j, want) → ∀ t, (ops[j]?).bind (·.dst) = some t → a.tmps.getD t undef = lk e t) : Region.wanted o (yielded ops a.tmps) = wantedE ops o e := by
  unfold wantedE Region.wanted
  split
  · rfl
  · rename_i j want hg
    rw [yielded_eq (h j want hg)]
theorem x_seq {P : Program} {ops : Array Oper} {n : Nat} {ef : Nat → Bool} {K : (World → Prop) → Env → Prop} {Q : Exit → Act → World → Prop} (hd : ∀ (i : Nat) (o : Oper), ops[i]? = some o → ∀ t, o.dst = some t → t < n)
    (hK : ∀ S e, K S e → ∀ w a, S w → Fits a n e → Q .normal a w) : ∀ (r : List Nat) (S : World → Prop) (U : List (Nat × Value)) (e : Env), X P ops (fun _ => false) ef K r S U e → ∀ w a, S w → Fits a n e → wpOps P ops Q r a w
  | [], S, U, e, h, w, a, hS, hF => hK S e h w a hS hF
  | i :: r, S, U, e, h, w, a, hS, hF => by
    obtain ⟨o, ho, hx⟩ := h
    have hw := wanted_eq (ops := ops) (o := o) (a := a) (e := e) (fun _ _ _ t _ => hF.at_ t)
    rw [wpOps_cons]
    unfold wpOp
    rw [ho]
    show if Region.wanted o (yielded ops a.tmps) then _ else _
    cases hef : ef i with
    | true =>
      rw [hef] at hx
      obtain ⟨hwa, hx⟩ := hx
      rw [hw, hwa, if_pos rfl]
      refine .inl (wp_of_eff (K := _) (by rw [hF.eval]; exact hx w hS) ?_)
      rintro v w' ⟨S', h1, -, h2⟩
      exact x_seq hd hK r S' _ _ h2 w' _ h1 (hF.put _ _ (hd i o ho))
    | false =>
      rw [hef] at hx
      obtain ⟨v, hy, hx⟩ := hx
      rcases hy with ⟨hwa, hy⟩ | ⟨hwa, rfl⟩
      · rw [hw, hwa, if_pos rfl]
        refine .inl (wp_of_eff (by rw [hF.eval]; exact hy w hS) ?_)
        rintro u w' ⟨rfl, h1⟩
        exact x_seq hd hK r S _ _ hx w' _ h1 (hF.put _ _ (hd i o ho))
      · rw [hw, hwa]
        exact x_seq hd hK r S _ _ hx w _ hS (hF.put _ _ (hd i o ho))
def waits (ops : Array Oper) (j i : Nat) : Bool :=
  match ops[j]? with
  | some oj => oj.after.any fun e => Region.binds .any e && e.on == i
  | none => false
def pos (ord : List Nat) (i : Nat) : Nat := ord.idxOf i
def chk (ops : Array Oper) (n : Nat) (ord : List Nat) (lo ef : Nat → Bool) : Bool :=
  Region.noSelect ops && ord.length == ops.size && decide ord.Nodup && ord.all (fun i => decide (i < ops.size)) &&
  (List.range ops.size).all (fun i => ord.contains i && match ops[i]? with
    | none => false
    | some o => (match o.dst with | some t => decide (t < n) | none => true) &&
      o.after.all (fun e => !Region.binds .any e || (decide (pos ord e.on < pos ord i) && decide (e.on < ops.size))) &&
      (List.range ops.size).all (fun j => match ops[j]? with
        | none => false
        | some p => (match p.dst with
          | some d => !(o.looksAt ops).contains d || (i != j && waits ops i j)
          | none => true) &&
          (i == j || match o.dst, p.dst with | some c, some d => c != d | _, _ => true) &&
          (!(ef i) || !(decide (pos ord i < pos ord j)) || desc ops ops.size i j) &&
          (!(ef j) || ef i || lo i || !(decide (pos ord i < pos ord j)) || desc ops ops.size i j)))
structure Chk (ops : Array Oper) (n : Nat) (ord : List Nat) (lo ef : Nat → Bool) : Prop where
  sel : Region.noSelect ops = true
  len : ord.length = ops.size
  nodup : ord.Nodup
  mem : ∀ i, i < ops.size → i ∈ ord
  lt : ∀ i ∈ ord, i < ops.size
  dst : ∀ (i : Nat) (o : Oper), ops[i]? = some o → ∀ t, o.dst = some t → t < n
  ext : ∀ (i : Nat) (o : Oper), ops[i]? = some o → ∀ e ∈ o.after, Region.binds .any e = true → pos ord e.on < pos ord i ∧ e.on < ops.size
  looks : ∀ (i : Nat) (o : Oper) (j : Nat) (p : Oper), ops[i]? = some o → ops[j]? = some p → ∀ d, p.dst = some d → d ∈ o.looksAt ops → i ≠ j ∧ waits ops i j = true
  apart : ∀ (i : Nat) (o : Oper) (j : Nat) (p : Oper), ops[i]? = some o → ops[j]? = some p → i ≠ j → ∀ d, o.dst = some d → p.dst ≠ some d
  eff1 : ∀ i j, i < ops.size → j < ops.size → ef i = true → pos ord i < pos ord j → desc ops ops.size i j = true
  eff2 : ∀ i j, i < ops.size → j < ops.size → ef j = true → ef i = false → lo i = false → pos ord i < pos ord j → desc ops ops.size i j = true
theorem chk_spec {ops : Array Oper} {n : Nat} {ord : List Nat} {lo ef : Nat → Bool} (h : chk ops n ord lo ef = true) : Chk ops n ord lo ef := by
  unfold chk at h
  simp only [Bool.and_eq_true, beq_iff_eq, decide_eq_true_eq, List.all_eq_true, List.mem_range] at h
  obtain ⟨⟨⟨⟨h1, h2⟩, h3⟩, h3b⟩, h4⟩ := h
  have at_ : ∀ (i : Nat) (o : Oper), ops[i]? = some o → i < ops.size := fun i o ho => (Array.getElem?_eq_some_iff.1 ho).1
  have get : ∀ i : Nat, i < ops.size → ∃ o, ops[i]? = some o := fun i hi => ⟨_, Array.getElem?_eq_getElem hi⟩
  refine ⟨h1, h2, h3, ?_, h3b, ?_, ?_, ?_, ?_, ?_, ?_⟩
  · intro i hi
    simpa using (h4 i hi).1
  · intro i o ho t ht
    have := (h4 i (at_ i o ho)).2
    rw [ho] at this
    simp only [Bool.and_eq_true, ht, decide_eq_true_eq] at this
    exact this.1.1
  · intro i o ho e he hb
    have := (h4 i (at_ i o ho)).2
    rw [ho] at this
    simp only [Bool.and_eq_true] at this
    have h5 := Array.all_eq_true_iff_forall_mem.1 this.1.2 e he
    simpa [hb] using h5
  · intro i o j p ho hp d hd hm
    have := (h4 i (at_ i o ho)).2
    rw [ho] at this
    simp only [Bool.and_eq_true, List.all_eq_true, List.mem_range] at this
    have h5 := this.2 j (at_ j p hp)
    rw [hp] at h5
    simp only [Bool.and_eq_true, hd] at h5
    have h6 := h5.1.1.1
    have hm' : (o.looksAt ops).contains d = true := by simpa using hm
    rw [hm'] at h6
    simpa using h6
  · intro i o j p ho hp hij d hd hp'
    have := (h4 i (at_ i o ho)).2
    rw [ho] at this
    simp only [Bool.and_eq_true, List.all_eq_true, List.mem_range] at this
    have h5 := this.2 j (at_ j p hp)
    rw [hp] at h5
    simp only [Bool.and_eq_true, hd, hp'] at h5
    have h6 := h5.1.1.2
    simp [hij] at h6
  · intro i j hi hj he hpos
    obtain ⟨o, ho⟩ := get i hi
    obtain ⟨p, hp⟩ := get j hj
    have := (h4 i hi).2
    rw [ho] at this
    simp only [Bool.and_eq_true, List.all_eq_true, List.mem_range] at this
    have h5 := this.2 j hj
    rw [hp] at h5
    simp only [Bool.and_eq_true] at h5
    simpa [he, hpos] using h5.1.2
  · intro i j hi hj he hi' hlo hpos
    obtain ⟨o, ho⟩ := get i hi
    obtain ⟨p, hp⟩ := get j hj
    have := (h4 i hi).2
    rw [ho] at this
    simp only [Bool.and_eq_true, List.all_eq_true, List.mem_range] at this
    have h5 := this.2 j hj
    rw [hp] at h5
    simp only [Bool.and_eq_true] at h5
    simpa [he, hi', hlo, hpos] using h5.2
theorem pos_lt {pre r : List Nat} {x i : Nat} (hx : x ∈ pre) (hi : i ∉ pre) : pos (pre ++ r) x < pos (pre ++ r) i := by
  unfold pos
  rw [List.idxOf_append, List.idxOf_append, if_pos hx, if_neg hi]
  have := List.idxOf_lt_length_of_mem hx
  omega
theorem lk_pute {d : Option Nat} {v : Value} {e : Env} {t : Nat} (h : d ≠ some t) : lk (pute d v e) t = lk e t := by
  cases d with
  | none => rfl
  | some u =>
    show lk ((u, v) :: e) t = _
    rw [lk_cons, if_neg (fun e => h (by rw [e]))]
theorem lk_pute_same {v : Value} {e : Env} {t : Nat} : lk (pute (some t) v e) t = v := by
  show lk ((t, v) :: e) t = _
  rw [lk_cons, if_pos rfl]
theorem looks_op {ops : Array Oper} {o : Oper} {t : Nat} (h : .tmp t ∈ o.op.operands) : t ∈ o.looksAt ops :=
  List.mem_append_left _ (List.mem_filterMap.2 ⟨.tmp t, by simpa using h, rfl⟩)
theorem looks_guard {ops : Array Oper} {o : Oper} {j : Nat} {b : Bool} {t : Nat} (h : o.guard = some (j, b)) (ht : (ops[j]?).bind (·.dst) = some t) : t ∈ o.looksAt ops := by
  refine List.mem_append_right _ ?_
  rw [h]
  simp only
  rw [ht]
  simp
theorem exec_env {ops : Array Oper} {o : Oper} {e e' : Env} (hs : ∀ cs b, o.op ≠ .select cs b) (h : ∀ t ∈ o.looksAt ops, lk e t = lk e' t) : execOp (ev e) o = execOp (ev e') o ∧ wantedE ops o e = wantedE ops o e' := by
  refine ⟨execOp_congr o hs fun x hx => ?_, ?_⟩
  · cases x with
    | tmp t => exact h t (looks_op hx)
    | _ => rfl
  · unfold wantedE Region.wanted
    split
    · rfl
    · rename_i j want hg
      have : yE ops e j = yE ops e' j := by
        unfold yE
        split
        · rename_i t ht
          rw [h t (looks_guard hg ht)]
        · rfl
      rw [this]
theorem exec_act {ops : Array Oper} {o : Oper} {a : Act} {e : Env} (hs : ∀ cs b, o.op ≠ .select cs b) (h : ∀ t ∈ o.looksAt ops, a.tmps.getD t undef = lk e t) : execOp a.eval o = execOp (ev e) o ∧ Region.wanted o (yielded ops a.tmps) = wantedE ops o e := by
  refine ⟨execOp_congr o hs fun x hx => ?_, wanted_eq fun j want hg t ht => h t (looks_guard hg ht)⟩
  cases x with
  | tmp t => exact h t (looks_op hx)
  | _ => rfl
theorem YE.on {P : Program} {ops : Array Oper} {S : World → Prop} {o : Oper} {v u : Value} {e : Env} {d : Option Nat} (hy : YE P ops S o v e) (hs : ∀ cs b, o.op ≠ .select cs b) (h : ∀ t, d = some t → t ∉ o.looksAt ops) : YE P ops S o v (pute d u e) := by
  have := exec_env (ops := ops) (o := o) (e := pute d u e) (e' := e) hs (fun t ht => lk_pute (fun e => h t e ht))
  unfold YE eff at *
  rw [this.1, this.2]
  exact hy
structure Inv (P : Program) (ops : Array Oper) (n : Nat) (ord : List Nat) (L : Array Bool) (a : Act) (S : World → Prop) (V : List (Nat × Value)) (r : List Nat) (e : Env) : Prop where
  size : L.size = ops.size
  defers : a.defers = []
  asize : a.tmps.size = n
  at_ : ∀ t, (∀ x ∈ V, (ops[x.1]?).bind (·.dst) ≠ some t) → a.tmps.getD t undef = lk e t
  has : ∀ x ∈ V, ∀ t, (ops[x.1]?).bind (·.dst) = some t → lk e t = x.2
  rem : ∀ i, i < ops.size → (L.getD i true = false ↔ i ∈ V.map (·.1) ∨ i ∈ r)
  closed : ∀ (j : Nat) (oj : Oper), ops[j]? = some oj → L.getD j false = true → ∀ ed ∈ oj.after, Region.binds .any ed = true → L.getD ed.on false = true
  suf : ∃ pre, ord = pre ++ r ∧ ∀ x ∈ V, x.1 ∈ pre
  nodup : (V.map (·.1)).Nodup
  still : ∀ x ∈ V, ∃ ox, ops[x.1]? = some ox ∧ YE P ops S ox x.2 e
theorem waits_listed {ops : Array Oper} {L : Array Bool} {i j : Nat} {oj : Oper} (ho : ops[j]? = some oj) (hall : ∀ e ∈ oj.after, Region.binds .any e = true → L.getD e.on false = true) (h : waits ops j i = true) : L.getD i false = true := by
  unfold waits at h
  rw [ho] at h
  obtain ⟨e, he, hb⟩ := Array.any_eq_true'.1 h
  simp only [Bool.and_eq_true, beq_iff_eq] at hb
  rw [← hb.2]
  exact hall e he hb.1
theorem desc_listed {ops : Array Oper} {L : Array Bool} {i : Nat} (hcl : ∀ (j : Nat) (oj : Oper), ops[j]? = some oj → L.getD j false = true → ∀ ed ∈ oj.after, Region.binds .any ed = true → L.getD ed.on false = true) :
    ∀ (f j : Nat) (oj : Oper), ops[j]? = some oj → (∀ e ∈ oj.after, Region.binds .any e = true → L.getD e.on false = true) → desc ops f i j = true → L.getD i false = true
  | 0, _, _, _, _, h => by simp [desc] at h
  | f + 1, j, oj, ho, hall, h => by
    unfold desc at h
    rw [ho] at h
    obtain ⟨e, he, hb⟩ := Array.any_eq_true'.1 h
    simp only [Bool.and_eq_true, beq_iff_eq, Bool.or_eq_true] at hb
    have hl := hall e he hb.1
    rcases hb.2 with h1 | h1
    · rw [← h1]; exact hl
    · cases ho' : ops[e.on]? with
      | none =>
        cases f with
        | zero => simp [desc] at h1
        | succ f =>
          unfold desc at h1
          rw [ho'] at h1
          cases h1
      | some o' => exact desc_listed hcl f e.on o' ho' (hcl _ _ ho' hl) h1
theorem exists_min (g : Nat → Nat) : ∀ (l : List Nat), l ≠ [] → ∃ x ∈ l, ∀ y ∈ l, g x ≤ g y
  | [], h => (h rfl).elim
  | [x], _ => ⟨x, by simp, by simp⟩
  | x :: y :: l, _ => by
    obtain ⟨z, hz, hm⟩ := exists_min g (y :: l) (by simp)
    by_cases h : g x ≤ g z
    · exact ⟨x, by simp, fun u hu => by
        rcases List.mem_cons.1 hu with rfl | hu
        · exact Nat.le_refl _
        · exact Nat.le_trans h (hm u hu)⟩
    · exact ⟨z, List.mem_cons_of_mem _ hz, fun u hu => by
        rcases List.mem_cons.1 hu with rfl | hu
        · omega
        · exact hm u hu⟩
theorem filter_len {j : Nat} : ∀ (V : List (Nat × Value)), (V.map (·.1)).Nodup → j ∈ V.map (·.1) → (V.filter (fun x => x.1 != j)).length + 1 = V.length
  | [], _, h => by simp at h
  | x :: V, hn, h => by
    simp only [List.map_cons, List.nodup_cons] at hn
    by_cases hx : x.1 = j
    · subst hx
      rw [List.filter_cons_of_neg (by simp), List.filter_eq_self.2 (fun y hy => by
        have : y.1 ≠ x.1 := fun e => hn.1 (e ▸ List.mem_map.2 ⟨y, hy, rfl⟩)
        simpa using this)]
      rfl
    · rw [List.filter_cons_of_pos (by simpa using hx)]
      have : j ∈ V.map (·.1) := by
        simp only [List.map_cons, List.mem_cons] at h
        rcases h with h | h
        · exact (hx h.symm).elim
        · exact h
      have := filter_len V hn.2 this
      simp only [List.length_cons]
      omega
section
variable {P : Program} {ops : Array Oper} {n : Nat} {ord : List Nat} {lo ef : Nat → Bool} {K : (World → Prop) → Env → Prop} {Q : Exit → Act → World → Prop}
theorem listed_iff {L : Array Bool} {i : Nat} (hs : L.size = ops.size) (hi : i < ops.size) : L.getD i false = true ↔ ¬ L.getD i true = false := by
  have : i < L.size := by omega
  simp [this]
theorem dst_bind {i : Nat} {o : Oper} (ho : ops[i]? = some o) : (ops[i]?).bind (·.dst) = o.dst := by rw [ho]; rfl
theorem Inv.later (hc : Chk ops n ord lo ef) {L : Array Bool} {a : Act} {S : World → Prop} {V : List (Nat × Value)} {i : Nat} {r : List Nat} {e : Env} {o : Oper} {v : Value} (h : Inv P ops n ord L a S V (i :: r) e) (ho : ops[i]? = some o) (hy : YE P ops S o v e) :
    Inv P ops n ord L a S (V ++ [(i, v)]) r (pute o.dst v e) := by
  obtain ⟨pre, hpre, hV⟩ := h.suf
  have hnd : (pre ++ i :: r).Nodup := hpre ▸ hc.nodup
  have hip : i ∉ pre := fun hm => by
    rw [List.nodup_append] at hnd
    exact hnd.2.2 i hm i (List.mem_cons_self ..) rfl
  have hne : ∀ x ∈ V, x.1 ≠ i := fun x hx e => hip (e ▸ hV x hx)
  have hlt : ∀ x ∈ V, pos ord x.1 < pos ord i := fun x hx => by rw [hpre]; exact pos_lt (hV x hx) hip
  refine ⟨h.size, h.defers, h.asize, fun t ht => ?_, fun x hx t ht => ?_, fun k hk => ?_, h.closed, ⟨pre ++ [i], by rw [hpre]; simp, fun x hx => ?_⟩, ?_, fun x hx => ?_⟩
  · have h1 : o.dst ≠ some t := by
      have := ht (i, v) (by simp)
      rwa [dst_bind ho] at this
    rw [lk_pute h1]
    exact h.at_ t (fun x hx => ht x (by simp [hx]))
  · rcases List.mem_append.1 hx with hx | hx
    · obtain ⟨ox, hox, -⟩ := h.still x hx
      rw [dst_bind hox] at ht
      rw [lk_pute (fun e => hc.apart x.1 ox i o hox ho (hne x hx) t ht e)]
      exact h.has x hx t (by rw [dst_bind hox]; exact ht)
    · simp only [List.mem_singleton] at hx
      subst hx
      rw [dst_bind ho] at ht
      rw [ht]
      exact lk_pute_same
  · rw [h.rem k hk]
    simp only [List.map_append, List.mem_append, List.mem_cons, List.map_cons, List.map_nil, List.not_mem_nil, or_false, or_assoc]
  · rcases List.mem_append.1 hx with hx | hx
    · exact List.mem_append_left _ (hV x hx)
    · simp only [List.mem_singleton] at hx
      subst hx
      simp
  · rw [List.map_append, List.nodup_append]
    refine ⟨h.nodup, by simp, fun x hx y hy => ?_⟩
    simp only [List.map_cons, List.map_nil, List.mem_singleton] at hy
    subst hy
    obtain ⟨z, hz, rfl⟩ := List.mem_map.1 hx
    exact hne z hz
  · rcases List.mem_append.1 hx with hx | hx
    · obtain ⟨ox, hox, hyx⟩ := h.still x hx
      refine ⟨ox, hox, hyx.on (fun cs b => Region.noSelect_spec hc.sel x.1 ox cs b hox) (fun t ht hm => ?_)⟩
      have h2 := (hc.looks x.1 ox i o hox ho t ht hm).2
      unfold waits at h2
      rw [hox] at h2
      obtain ⟨ed, he, hb⟩ := Array.any_eq_true'.1 h2
      simp only [Bool.and_eq_true, beq_iff_eq] at hb
      have h3 := (hc.ext x.1 ox hox ed he hb.1).1
      rw [hb.2] at h3
      have := hlt x hx
      omega
    · simp only [List.mem_singleton] at hx
      subst hx
      refine ⟨o, ho, hy.on (fun cs b => Region.noSelect_spec hc.sel i o cs b ho) (fun t ht hm => ?_)⟩
      exact (hc.looks i o i o ho ho t ht hm).1 rfl
end
section
variable {P : Program} {ops : Array Oper} {n : Nat} {ord : List Nat} {lo ef : Nat → Bool} {K : (World → Prop) → Env → Prop} {Q : Exit → Act → World → Prop}
theorem Inv.ready (hc : Chk ops n ord lo ef) {L : Array Bool} {a : Act} {S : World → Prop} {V : List (Nat × Value)} {r : List Nat} {e : Env} (h : Inv P ops n ord L a S V r e) (hne : V.map (·.1) ++ r ≠ []) : Region.ready .any ops L ≠ [] := by
  obtain ⟨x, hx, hm⟩ := exists_min (pos ord) _ hne
  obtain ⟨pre, hpre, hV⟩ := h.suf
  have hxo : x ∈ ord := by
    rw [hpre]
    rcases List.mem_append.1 hx with hx | hx
    · obtain ⟨z, hz, rfl⟩ := List.mem_map.1 hx
      exact List.mem_append_left _ (hV z hz)
    · exact List.mem_append_right _ hx
  have hxs : x < ops.size := hc.lt x hxo
  intro h0
  have : x ∈ Region.ready .any ops L := by
    refine mem_ready.2 ⟨(h.rem x hxs).2 (by simpa using hx), ops[x], Array.getElem?_eq_getElem hxs, fun ed he hb => ?_⟩
    obtain ⟨h1, h2⟩ := hc.ext x ops[x] (Array.getElem?_eq_getElem hxs) ed he hb
    rw [listed_iff (ops := ops) h.size h2, h.rem _ h2]
    intro h3
    have := hm ed.on (List.mem_append.2 h3)
    omega
  rw [h0] at this
  cases this
theorem Inv.looks (hc : Chk ops n ord lo ef) {L : Array Bool} {a : Act} {S : World → Prop} {V : List (Nat × Value)} {r : List Nat} {e : Env} (h : Inv P ops n ord L a S V r e) {j : Nat} {oj : Oper} (ho : ops[j]? = some oj) (hall : ∀ ed ∈ oj.after, Region.binds .any ed = true → L.getD ed.on false = true) :
    ∀ t ∈ oj.looksAt ops, a.tmps.getD t undef = lk e t := fun t ht => h.at_ t fun x hx hd => by
  obtain ⟨ox, hox, -⟩ := h.still x hx
  rw [dst_bind hox] at hd
  have h1 := waits_listed ho hall (hc.looks j oj x.1 ox ho hox t hd ht).2
  have hxs : x.1 < ops.size := (Array.getElem?_eq_some_iff.1 hox).1
  exact (listed_iff (ops := ops) h.size hxs).1 h1 ((h.rem _ hxs).2 (.inl (List.mem_map.2 ⟨x, hx, rfl⟩)))
theorem set_closed {L : Array Bool} {j : Nat} {oj : Oper} (hcl : ∀ (j : Nat) (oj : Oper), ops[j]? = some oj → L.getD j false = true → ∀ ed ∈ oj.after, Region.binds .any ed = true → L.getD ed.on false = true)
    (ho : ops[j]? = some oj) (hall : ∀ ed ∈ oj.after, Region.binds .any ed = true → L.getD ed.on false = true) :
    ∀ (k : Nat) (ok : Oper), ops[k]? = some ok → (L.setIfInBounds j true).getD k false = true → ∀ ed ∈ ok.after, Region.binds .any ed = true → (L.setIfInBounds j true).getD ed.on false = true := fun k ok hk hl ed he hb => by
  by_cases hjk : j = k
  · subst hjk
    obtain rfl : ok = oj := Option.some.inj (hk.symm.trans ho)
    exact getD_set_true (hall ed he hb)
  · rw [getD_set_ne false hjk] at hl
    exact getD_set_true (hcl k ok hk hl ed he hb)
theorem set_rem {L : Array Bool} {j : Nat} (hs : L.size = ops.size) (hj : j < ops.size) (k : Nat) (hk : k < ops.size) : (L.setIfInBounds j true).getD k true = false ↔ (L.getD k true = false ∧ k ≠ j) := by
  by_cases hjk : j = k
  · subst hjk
    have : j < L.size := by omega
    simp [this]
  · rw [getD_set_ne true hjk]
    exact ⟨fun h => ⟨h, Ne.symm hjk⟩, fun h => h.1⟩
theorem Inv.take (hc : Chk ops n ord lo ef) {L : Array Bool} {a : Act} {S : World → Prop} {V : List (Nat × Value)} {r : List Nat} {e : Env} (h : Inv P ops n ord L a S V r e) {x : Nat × Value} (hx : x ∈ V) {ox : Oper} (ho : ops[x.1]? = some ox) (hall : ∀ ed ∈ ox.after, Region.binds .any ed = true → L.getD ed.on false = true) :
    Inv P ops n ord (L.setIfInBounds x.1 true) (a.put ox.dst x.2) S (V.filter (fun y => y.1 != x.1)) r e := by
  obtain ⟨pre, hpre, hV⟩ := h.suf
  have hxs : x.1 < ops.size := (Array.getElem?_eq_some_iff.1 ho).1
  have hnd : (pre ++ r).Nodup := hpre ▸ hc.nodup
  have hxr : x.1 ∉ r := fun hm => by
    rw [List.nodup_append] at hnd
    exact hnd.2.2 _ (hV x hx) _ hm rfl
  have keys : ∀ k, k ∈ (V.filter (fun y => y.1 != x.1)).map (·.1) ↔ (k ∈ V.map (·.1) ∧ k ≠ x.1) := fun k => by
    simp only [List.mem_map, List.mem_filter, bne_iff_ne]
    exact ⟨fun ⟨y, ⟨h1, h2⟩, h3⟩ => ⟨⟨y, h1, h3⟩, h3 ▸ h2⟩, fun ⟨⟨y, h1, h3⟩, h2⟩ => ⟨y, ⟨h1, h3 ▸ h2⟩, h3⟩⟩
  refine ⟨by simp [h.size], ?_, ?_, fun t ht => ?_, fun y hy t hd => h.has y (List.mem_filter.1 hy).1 t hd, fun k hk => ?_, set_closed h.closed ho hall, ⟨pre, hpre, fun y hy => hV y (List.mem_filter.1 hy).1⟩, ?_, fun y hy => h.still y (List.mem_filter.1 hy).1⟩
  · cases hd : ox.dst <;> exact h.defers
  · cases hd : ox.dst <;> simp [Act.put, h.asize]
  · by_cases hd : ox.dst = some t
    · rw [hd]
      have h1 := h.has x hx t (by rw [dst_bind ho]; exact hd)
      have h2 := hc.dst x.1 ox ho t hd
      have h3 := h.asize
      simp [Act.put, h1, h3, h2]
    · have : (a.put ox.dst x.2).tmps.getD t undef = a.tmps.getD t undef := by
        cases hd' : ox.dst with
        | none => rfl
        | some u =>
          have : u ≠ t := fun e => hd (by rw [hd', e])
          simp [Act.put, Array.getElem?_setIfInBounds_ne this]
      rw [this]
      refine h.at_ t fun y hy => ?_
      by_cases hyx : y.1 = x.1
      · rw [hyx, dst_bind ho]
        exact hd
      · exact ht y (List.mem_filter.2 ⟨hy, by simpa using hyx⟩)
  · rw [set_rem h.size hxs k hk, h.rem k hk, keys]
    constructor
    · rintro ⟨h1 | h1, h2⟩
      · exact .inl ⟨h1, h2⟩
      · exact .inr h1
    · rintro (⟨h1, h2⟩ | h1)
      · exact ⟨.inl h1, h2⟩
      · exact ⟨.inr h1, fun e => hxr (e ▸ h1)⟩
  · exact (List.filter_sublist.map _).nodup h.nodup
theorem Inv.go (hc : Chk ops n ord lo ef) {L : Array Bool} {a : Act} {S S' : World → Prop} {V : List (Nat × Value)} {i : Nat} {r : List Nat} {e : Env} (h : Inv P ops n ord L a S V (i :: r) e) {o : Oper} {v : Value} (ho : ops[i]? = some o) (hall : ∀ ed ∈ o.after, Region.binds .any ed = true → L.getD ed.on false = true)
    (hst : ∀ x ∈ V, ∃ ox, ops[x.1]? = some ox ∧ YE P ops S' ox x.2 e) :
    Inv P ops n ord (L.setIfInBounds i true) (a.put o.dst v) S' V r (pute o.dst v e) := by
  obtain ⟨pre, hpre, hV⟩ := h.suf
  have his : i < ops.size := (Array.getElem?_eq_some_iff.1 ho).1
  have hnd : (pre ++ i :: r).Nodup := hpre ▸ hc.nodup
  have hip : i ∉ pre := fun hm => by
    rw [List.nodup_append] at hnd
    exact hnd.2.2 i hm i (List.mem_cons_self ..) rfl
  have hir : i ∉ r := by
    rw [List.nodup_append, List.nodup_cons] at hnd
    exact hnd.2.1.1
  have hne : ∀ x ∈ V, x.1 ≠ i := fun x hx e => hip (e ▸ hV x hx)
  have hlt : ∀ x ∈ V, pos ord x.1 < pos ord i := fun x hx => by rw [hpre]; exact pos_lt (hV x hx) hip
  refine ⟨by simp [h.size], ?_, ?_, fun t ht => ?_, fun x hx t hd => ?_, fun k hk => ?_, set_closed h.closed ho hall, ⟨pre ++ [i], by rw [hpre]; simp, fun y hy => List.mem_append_left _ (hV y hy)⟩, h.nodup, fun x hx => ?_⟩
  · cases hd : o.dst <;> exact h.defers
  · cases hd : o.dst <;> simp [Act.put, h.asize]
  · by_cases hd : o.dst = some t
    · rw [hd]
      have h2 := hc.dst i o ho t hd
      have h3 := h.asize
      rw [lk_pute_same]
      simp [Act.put, h3, h2]
    · rw [lk_pute hd, ← h.at_ t ht]
      cases hd' : o.dst with
      | none => rfl
      | some u =>
        have : u ≠ t := fun e => hd (by rw [hd', e])
        simp [Act.put, Array.getElem?_setIfInBounds_ne this]
  · obtain ⟨ox, hox, -⟩ := h.still x hx
    rw [dst_bind hox] at hd
    rw [lk_pute (fun e => hc.apart x.1 ox i o hox ho (hne x hx) t hd e)]
    exact h.has x hx t (by rw [dst_bind hox]; exact hd)
  · rw [set_rem h.size his k hk, h.rem k hk]
    constructor
    · rintro ⟨h1 | h1, h2⟩
      · exact .inl h1
      · rcases List.mem_cons.1 h1 with h1 | h1
        · exact (h2 h1).elim
        · exact .inr h1
    · rintro (h1 | h1)
      · refine ⟨.inl h1, fun e => ?_⟩
        obtain ⟨y, hy, hyk⟩ := List.mem_map.1 h1
        exact hne y hy (hyk.trans e)
      · exact ⟨.inr (List.mem_cons_of_mem _ h1), fun e => hir (e ▸ h1)⟩
  · obtain ⟨ox, hox, hyx⟩ := hst x hx
    refine ⟨ox, hox, hyx.on (fun cs b => Region.noSelect_spec hc.sel x.1 ox cs b hox) (fun t ht hm => ?_)⟩
    have h2 := (hc.looks x.1 ox i o hox ho t ht hm).2
    unfold waits at h2
    rw [hox] at h2
    obtain ⟨ed, he, hb⟩ := Array.any_eq_true'.1 h2
    simp only [Bool.and_eq_true, beq_iff_eq] at hb
    have h3 := (hc.ext x.1 ox hox ed he hb.1).1
    rw [hb.2] at h3
    have := hlt x hx
    omega
theorem x_step (hc : Chk ops n ord lo ef)
    (hK : ∀ S e, K S e → ∀ w a, S w → Fits a n e → Q .normal a w) (fuel : Nat)
    (ih : ∀ (r : List Nat) (L : Array Bool) (a : Act) (w : World) (S : World → Prop) (V U : List (Nat × Value)) (e : Env), V.length + r.length = fuel → X P ops lo ef K r S U e → S w → Inv P ops n ord L a S V r e → (∀ x ∈ V, lo x.1 = true → x ∈ U) → (∀ x ∈ V, ef x.1 = false) → wpAny P .any ops Q fuel L a w)
    (r : List Nat) (hr : r = [] ∨ ∃ i r', r = i :: r' ∧ ef i = true) (L : Array Bool) (a : Act) (w : World) (S : World → Prop) (V U : List (Nat × Value)) (e : Env) (hf : V.length + r.length = fuel + 1) (hX : X P ops lo ef K r S U e) (hS : S w)
    (h : Inv P ops n ord L a S V r e) (hU : ∀ x ∈ V, lo x.1 = true → x ∈ U) (hVe : ∀ x ∈ V, ef x.1 = false) : wpAny P .any ops Q (fuel + 1) L a w := by
  refine ⟨fun h0 => (h.ready hc (fun e => ?_) h0).elim, fun j hj => ?_⟩
  · have := congrArg List.length e
    simp at this
    simp [this.1, this.2] at hf
  obtain ⟨hju, oj, hoj, hall⟩ := mem_ready.1 hj
  have hjs : j < ops.size := (Array.getElem?_eq_some_iff.1 hoj).1
  obtain ⟨hexec, hwant⟩ := exec_act (ops := ops) (a := a) (e := e) (fun cs b => Region.noSelect_spec hc.sel j oj cs b hoj) (h.looks hc hoj hall)
  rcases (h.rem j hjs).1 hju with hjV | hjr
  · obtain ⟨x, hx, rfl⟩ := List.mem_map.1 hjV
    obtain ⟨ox, hox, hy⟩ := h.still x hx
    obtain rfl : ox = oj := Option.some.inj (hox.symm.trans hoj)
    have hinv := h.take hc hx hoj hall
    have hlen := filter_len V h.nodup hjV
    have hU' : ∀ y ∈ V.filter (fun y => y.1 != x.1), lo y.1 = true → y ∈ U := fun y hy hl => hU y (List.mem_filter.1 hy).1 hl
    have hV' : ∀ y ∈ V.filter (fun y => y.1 != x.1), ef y.1 = false := fun y hy => hVe y (List.mem_filter.1 hy).1
    unfold wpOp
    rw [hoj]
    show if Region.wanted ox (yielded ops a.tmps) then _ else _
    rcases hy with ⟨hwa, hy⟩ | ⟨hwa, hv⟩
    · rw [hwant, hwa, if_pos rfl]
      refine .inl (wp_of_eff (K := fun u w' => u = x.2 ∧ S w') ?_ ?_)
      · have := hy w hS
        unfold eff at this ⊢
        rw [hexec]
        exact this
      · rintro u w' ⟨rfl, hS'⟩
        exact ih r _ _ w' S _ U e (by omega) hX hS' hinv hU' hV'
    · rw [hwant, hwa]
      show wpAny P .any ops Q fuel _ (a.put ox.dst undef) w
      rw [← hv]
      exact ih r _ _ w S _ U e (by omega) hX hS hinv hU' hV'
  · rcases hr with rfl | ⟨i, r', rfl, hei⟩
    · cases hjr
    obtain ⟨pre, hpre, hV⟩ := h.suf
    have hnd : (pre ++ i :: r').Nodup := hpre ▸ hc.nodup
    have hip : i ∉ pre := fun hm => by
      rw [List.nodup_append] at hnd
      exact hnd.2.2 i hm i (List.mem_cons_self ..) rfl
    obtain ⟨o, ho, hx⟩ := hX
    have his : i < ops.size := (Array.getElem?_eq_some_iff.1 ho).1
    by_cases hji : j = i
    · subst hji
      obtain rfl : o = oj := Option.some.inj (ho.symm.trans hoj)
      rw [hei] at hx
      obtain ⟨hwa, hx⟩ := hx
      have hlo : ∀ x ∈ V, x ∈ U := fun x hxV => by
        refine hU x hxV ?_
        cases hl : lo x.1 with
        | true => rfl
        | false =>
          obtain ⟨ox, hox, -⟩ := h.still x hxV
          have hxs : x.1 < ops.size := (Array.getElem?_eq_some_iff.1 hox).1
          have h1 := hc.eff2 x.1 j hxs hjs hei (hVe x hxV) hl (by rw [hpre]; exact pos_lt (hV x hxV) hip)
          have h2 := desc_listed h.closed _ j o hoj hall h1
          exact ((listed_iff (ops := ops) h.size hxs).1 h2 ((h.rem _ hxs).2 (.inl (List.mem_map.2 ⟨x, hxV, rfl⟩)))).elim
      have hds : ∀ x ∈ V, desc ops ops.size x.1 j = false := fun x hxV => by
        cases hd : desc ops ops.size x.1 j with
        | false => rfl
        | true =>
          obtain ⟨ox, hox, -⟩ := h.still x hxV
          have hxs : x.1 < ops.size := (Array.getElem?_eq_some_iff.1 hox).1
          have h2 := desc_listed h.closed _ j o hoj hall hd
          exact ((listed_iff (ops := ops) h.size hxs).1 h2 ((h.rem _ hxs).2 (.inl (List.mem_map.2 ⟨x, hxV, rfl⟩)))).elim
      unfold wpOp
      rw [hoj]
      show if Region.wanted o (yielded ops a.tmps) then _ else _
      rw [hwant, hwa, if_pos rfl]
      refine .inl (wp_of_eff (K := fun v w' => ∃ S' : World → Prop, S' w' ∧ (∀ x ∈ U, desc ops ops.size x.1 j = false → ∃ ox, ops[x.1]? = some ox ∧ YE P ops S' ox x.2 e) ∧ X P ops lo ef K r' S' U (pute o.dst v e)) ?_ ?_)
      · have := hx w hS
        unfold eff at this ⊢
        rw [hexec]
        exact this
      · rintro v w' ⟨S', h1, h2, h3⟩
        refine ih r' _ _ w' S' V U _ ?_ h3 h1 (h.go hc hoj hall (fun x hxV => h2 x (hlo x hxV) (hds x hxV))) hU hVe
        simp only [List.length_cons] at hf
        omega
    · have hjr' : j ∈ r' := (List.mem_cons.1 hjr).resolve_left hji
      have hlt : pos ord i < pos ord j := by
        have : ord = (pre ++ [i]) ++ r' := by rw [hpre]; simp
        rw [this]
        refine pos_lt (by simp) (fun hm => ?_)
        have hnd' : ((pre ++ [i]) ++ r').Nodup := by simpa using hnd
        rw [List.nodup_append] at hnd'
        exact hnd'.2.2 j hm j hjr' rfl
      have h2 := desc_listed h.closed _ j oj hoj hall (hc.eff1 i j his hjs hei hlt)
      exact ((listed_iff (ops := ops) h.size his).1 h2 ((h.rem _ his).2 (.inr (List.mem_cons_self ..)))).elim
theorem x_any_aux (hc : Chk ops n ord lo ef) (hK : ∀ S e, K S e → ∀ w a, S w → Fits a n e → Q .normal a w) : ∀ (fuel : Nat) (r : List Nat) (L : Array Bool) (a : Act) (w : World) (S : World → Prop) (V U : List (Nat × Value)) (e : Env),
    V.length + r.length = fuel → X P ops lo ef K r S U e → S w → Inv P ops n ord L a S V r e → (∀ x ∈ V, lo x.1 = true → x ∈ U) → (∀ x ∈ V, ef x.1 = false) → wpAny P .any ops Q fuel L a w := by
  intro fuel
  induction fuel with
  | zero =>
    intro r L a w S V U e hf hX hS h hU hVe
    have hf1 : V.length = 0 := by omega
    have hf2 : r.length = 0 := by omega
    obtain rfl : V = [] := List.eq_nil_of_length_eq_zero hf1
    obtain rfl : r = [] := List.eq_nil_of_length_eq_zero hf2
    refine ⟨List.eq_nil_iff_forall_not_mem.2 fun j hj => ?_, hK S e hX w a hS ⟨h.defers, h.asize, fun t => h.at_ t (by simp)⟩⟩
    obtain ⟨hju, oj, hoj, -⟩ := mem_ready.1 hj
    have := (h.rem j (Array.getElem?_eq_some_iff.1 hoj).1).1 hju
    simp at this
  | succ fuel ih =>
    intro r
    induction r with
    | nil =>
      intro L a w S V U e hf hX hS h hU hVe
      exact x_step hc hK fuel ih [] (.inl rfl) L a w S V U e hf hX hS h hU hVe
    | cons i r ihr =>
      intro L a w S V U e hf hX hS h hU hVe
      cases hei : ef i with
      | true => exact x_step hc hK fuel ih (i :: r) (.inr ⟨i, r, rfl, hei⟩) L a w S V U e hf hX hS h hU hVe
      | false =>
        obtain ⟨o, ho, hx⟩ := hX
        rw [hei] at hx
        obtain ⟨v, hy, hx⟩ := hx
        refine ihr L a w S (V ++ [(i, v)]) (bif lo i then (i, v) :: U else U) (pute o.dst v e) ?_ hx hS (h.later hc ho hy) ?_ ?_
        · simp only [List.length_cons, List.length_append, List.length_nil] at hf ⊢
          omega
        · intro x hx' hl
          rcases List.mem_append.1 hx' with hx' | hx'
          · have := hU x hx' hl
            cases lo i
            · exact this
            · exact List.mem_cons_of_mem _ this
          · simp only [List.mem_singleton] at hx'
            subst hx'
            rw [hl]
            exact List.mem_cons_self ..
        · intro x hx'
          rcases List.mem_append.1 hx' with hx' | hx'
          · exact hVe x hx'
          · simp only [List.mem_singleton] at hx'
            subst hx'
            exact hei
theorem x_any {id : Nat} (hm : P.follows .mixedOrders = true) (hck : chk ops n ord lo ef = true) (hK : ∀ S e, K S e → ∀ w a, S w → Fits a n e → Q .normal a w) {S : World → Prop} {e : Env} (hX : X P ops lo ef K ord S [] e) (hS : ∀ w, S w → S w.drew)
    {w : World} {a : Act} (hw : S w) (hF : Fits a n e) : (Code.region id ops true).wp P Q a w := by
  have hc := chk_spec hck
  refine wp_region_any hm ?_
  refine x_any_aux hc hK ops.size ord _ a _ S [] [] e (by simp [hc.len]) hX (hS w hw) ?_ (by simp) (by simp)
  refine ⟨by simp, hF.defers, hF.size, fun t _ => hF.at_ t, by simp, fun i hi => ?_, fun j oj ho hl => ?_, ⟨[], rfl, by simp⟩, by simp, by simp⟩
  · have := hc.mem i hi
    simp [hi, this]
  · have hj : j < ops.size := (Array.getElem?_eq_some_iff.1 ho).1
    simp [hj] at hl
theorem x_text {id : Nat} (hd : ∀ (i : Nat) (o : Oper), ops[i]? = some o → ∀ t, o.dst = some t → t < n) (hK : ∀ S e, K S e → ∀ w a, S w → Fits a n e → Q .normal a w) {S : World → Prop} {e : Env} (hX : X P ops (fun _ => false) ef K (List.range ops.size) S [] e)
    {w : World} {a : Act} (hw : S w) (hF : Fits a n e) : (Code.region id ops false).wp P Q a w :=
  wp_region (x_seq hd hK _ S [] e hX w a hw hF)
end
end Go.Proofs.YtmpcfamcbaineaaGreat.Mo
