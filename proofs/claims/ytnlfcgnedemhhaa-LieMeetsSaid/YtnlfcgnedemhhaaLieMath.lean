/- Ends of links: plain mathematics. -/
import Derived.Test.YtnlfcgnedemhhaaPx0
namespace Go.Proofs.Ytnlfcgnedemhhaa.L
set_option linter.unusedVariables false

/-- a node's port -/
structure Port where
  node : Int
  level : Int
  pod : Int
  mtu : Int
  link : Int
  hold : Int
/-- what a node says of itself -/
structure Say where
  node : Int
  level : Int
  pod : Int
  mtu : Int
  link : Int
  nonce : Int
  seen : Int
  seenLink : Int
  seenNonce : Int
  hold : Int
  rep : Bool
  noOffer : Bool
/-- who is heard -/
structure Oth where
  node : Int
  link : Int
  level : Int
  nonce : Int
/-- an end -/
structure St where
  port : Port
  state : Int
  nonce : Int
  other : Oth
  until_ : Int

def noOth : Oth := ⟨0, 0, 0, 0⟩
def within (n a b : Int) : Bool := decide (a ≤ n) && decide (n ≤ b)
def rightPort (p : Port) : Bool := within p.node 1 1000 && (within p.level (-1) 24 && (within p.pod 0 65535 && (within p.mtu 0 65535 && (within p.link 0 65535 && within p.hold 1 1000))))
def rightSay (x : Say) : Bool := within x.pod 0 65535 && (within x.mtu 0 65535 && (within x.link 0 65535 && (within x.nonce 0 65535 && (within x.seenLink 0 65535 && (within x.seenNonce 0 65535 && (within x.hold 0 65535 && (within x.node 1 1000 && (within x.level (-1) 24 && within x.seen 0 1000))))))))
def accepts (p : Port) (x : Say) : Bool :=
  if x.node = p.node ∨ x.mtu ≠ p.mtu ∨ p.level < 0 ∨ x.level < 0 then false
  else if x.pod ≠ p.pod ∧ x.pod ≠ 0 ∧ p.pod ≠ 0 then false
  else if x.level = p.level then decide (0 < x.level)
  else decide (x.level = 0 ∨ p.level = 0 ∨ x.level - p.level = 1 ∨ p.level - x.level = 1)
def next (n : Int) : Int := if 1 ≤ n ∧ n < 65535 then n + 1 else 1
def nonce (n : Int) : Bool := within n 1 65535
def fresh (told own slack : Int) : Bool := nonce told && (nonce own && decide ((own - told + 65535) % 65535 ≤ min (max slack 0) 1000))
def sees (s : St) (x : Say) : Bool := decide (x.seen = s.port.node) && (decide (x.seenLink = s.port.link) && fresh x.seenNonce s.nonce 16)
def moment (n : Int) : Bool := within n 0 1099511627776
def fall (s : St) (state : Int) : St := { s with state := state, other := noOth }
def hears (s : St) : Bool := !(decide (s.other.node = 0) && (decide (s.other.link = 0) && (decide (s.other.level = 0) && decide (s.other.nonce = 0))))
def take (s : St) (x : Say) (now : Int) : Int × St :=
  if moment now = false then (1, s)
  else if rightSay x = false then (2, s)
  else if accepts s.port x = false then (6, if s.other.node = x.node ∧ s.other.link = x.link then fall s 0 else s)
  else if s.state = 3 then (6, s)
  else if hears s = true ∧ ¬ (s.other.node = x.node ∧ s.other.link = x.link) then (0, { fall s 3 with until_ := now + 4 })
  else (0, { s with other := ⟨x.node, x.link, x.level, x.nonce⟩, until_ := now + x.hold, state := if sees s x = true then 2 else 1 })
def tick (s : St) (now : Int) : Int × St :=
  if moment now = false then (1, s)
  else (0, if s.state ≠ 0 ∧ s.until_ ≤ now then fall { s with nonce := next s.nonce } 0 else { s with nonce := next s.nonce })
def level (s : St) (l : Int) : Int × St :=
  if within l (-1) 24 = false then (1, s)
  else (0, if l ≠ s.port.level then fall { s with port := { s.port with level := l } } 0 else s)
def say (s : St) : Say := ⟨s.port.node, s.port.level, s.port.pod, s.port.mtu, s.port.link, s.nonce, s.other.node, s.other.link, s.other.nonce, s.port.hold, false, false⟩
def new (p : Port) : St := ⟨p, 0, 1, noOth, 0⟩
/-- two ends hear one another -/
def round (a b : St) (now : Int) : St × St :=
  ((take (tick a now).2 (say (take (tick b now).2 (say (tick a now).2) now).2) now).2, (take (tick b now).2 (say (tick a now).2) now).2)
end Go.Proofs.Ytnlfcgnedemhhaa.L
